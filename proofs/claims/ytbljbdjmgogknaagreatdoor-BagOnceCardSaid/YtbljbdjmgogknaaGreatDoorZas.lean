/-
  Gl: texts of one proof, one behind the other.
  Conditions: none of its own.
-/
import Derived.Test.YtbljbdjmgogknaaGreatDoorZar
import Derived.BigQuiet
import Derived.Deep.CutBlock
import Derived.Deep.DeepCutAuto
/-
  Bag: BagOnce, walked (printed by wip/gen/mkbag7.py).
  Conditions: the library's variables hold what they are laid with; the model's longest length.
-/
set_option linter.unusedVariables false
set_option linter.unusedSimpArgs false
namespace Go.Proofs.YtbljbdjmgogknaaGreatDoor
open Go.RowKit Go.Shelf
attribute [local go_sem] Oper.semAt_some

/-- The bag; the result's box; a list of the call's own, in a box. -/
structure LsW (w0 w : World) (pb rb lb : Nat) (lv wv : Value) (items : List Item) (L : List Nat) : Prop where
  h : BagW w w0.heap.size pb lv items
  r : Cl w rb [.bool false] 4
  b : Cl w lb [wv] 30
  s : Sl w w0.heap.size 1 wv L.length (wantV L)
  ap : ∀ j, wv.ownBlock = some j → Apart pb lv j
  ar : Apart pb lv rb
  al : Apart pb lv lb
  nr : ∀ j, wv.ownBlock = some j → j ≠ rb ∧ j ≠ lb
  rl : rb ≠ lb
  bel : Below w0.heap.size w0 w
  lo : w0.heap.size ≤ rb ∧ w0.heap.size ≤ lb
theorem LsW.below {w0 w w' : World} {pb rb lb : Nat} {lv wv : Value} {items : List Item} {L : List Nat} (c : LsW w0 w pb rb lb lv wv items L) (b : Below w.heap.size w w') : LsW w0 w' pb rb lb lv wv items L :=
  ⟨c.h.below b, c.r.below b, c.b.below b, c.s.kept (Keeps.below (fun _ => False) b) (fun _ _ => id), c.ap, c.ar, c.al, c.nr, c.rl, bt c.bel b, c.lo⟩
theorem LsW.bag {w0 w w' : World} {pb rb lb : Nat} {lv lv' wv : Value} {items items' : List Item} {L : List Nat} (c : LsW w0 w pb rb lb lv wv items L) (h : BagW w' w0.heap.size pb lv' items') (k : BagK pb lv lv' w w') : LsW w0 w' pb rb lb lv' wv items' L :=
  ⟨h, c.ar.cl k c.r, c.al.cl k c.b, c.s.kept k.k (fun j hj e => by
    rcases e with e | e
    · exact (c.ap j hj).b e.symm
    · exact (c.ap j hj).n j e rfl), fun j hj => (c.ap j hj).next k (c.s.lt j hj).2, c.ar.next k c.r.lt, c.al.next k c.b.lt, c.nr, c.rl, c.bel.trans (k.below c.h c.bel.size), c.lo⟩
/-- The list is another one. -/
theorem LsW.put {w0 w w' : World} {pb rb lb : Nat} {lv wv wv' : Value} {items : List Item} {L L' : List Nat} (c : LsW w0 w pb rb lb lv wv items L) (k : Keeps (fun j => wv.ownBlock = some j) w w') (s : Sl w' w0.heap.size 1 wv' L'.length (wantV L'))
    (n : ∀ j, wv'.ownBlock = some j → wv.ownBlock = some j ∨ w.heap.size ≤ j) : LsW w0 (w'.setCell ⟨lb, 0, none⟩ wv') pb rb lb lv wv' items L' ∧ w'.cell? ⟨lb, 0, none⟩ = some wv ∧ w'.frozen? ⟨lb, 0, none⟩ = false := by
  have b1 : Cl w' lb [wv] 30 := c.b.keep k (fun e => (c.nr lb e).2 rfl)
  have r1 : Cl w' rb [.bool false] 4 := c.r.keep k (fun e => (c.nr rb e).1 rfl)
  have k2 : Keeps (fun j => j = lb) w' (w'.setCell ⟨lb, 0, none⟩ wv') := Keeps.setCell _ _ _ _ rfl
  have kk : Keeps (fun j => wv.ownBlock = some j ∨ j = lb) w (w'.setCell ⟨lb, 0, none⟩ wv') := (k.mono (fun j _ e => .inl e)).trans (k2.mono (fun j _ e => .inr e))
  have hr := c.r.lt
  have hl := c.b.lt
  have ap' : ∀ j, wv'.ownBlock = some j → Apart pb lv j := fun j hj => by
    rcases n j hj with e | e
    · exact c.ap j e
    · exact c.h.apart e
  have nr' : ∀ j, wv'.ownBlock = some j → j ≠ rb ∧ j ≠ lb := fun j hj => by
    rcases n j hj with e | e
    · exact c.nr j e
    · exact ⟨by omega, by omega⟩
  refine ⟨⟨c.h.keep kk (fun e => ?_) (fun j hj e => ?_), r1.keep k2 c.rl, ?_, s.kept k2 (fun j hj e => (nr' j hj).2 e), ap', c.ar, c.al, nr', c.rl, c.bel.trans (kk.toBelow c.bel.size (fun j hj e => ?_)), c.lo⟩, b1.cell 0, b1.free 0⟩
  · rcases e with e | e
    · exact (c.ap pb e).b rfl
    · exact c.al.b e
  · rcases e with e | e
    · exact (c.ap j e).n j hj rfl
    · exact c.al.n j hj e
  · have := b1.set 0 wv'
    exact this
  · rcases e with e | e
    · have := (c.s.lt j e).1; omega
    · have := c.lo.2; omega
theorem slice_from {P : Program} (t e : TypeId) (i : TypeInfo) (ht : P.underlying t = some (.slice e)) (hi : P.info? e = some i) (hsz : i.size = 1) (g off len cap k : Nat) (hk : k ≤ len) (j : Int) (hj : j = k) (w : World) :
    (Instr.slice t (.slice (some ⟨g, off, none⟩) len cap) (some (.int .i64 j)) none none).run P w = .ok (.slice (some (if cap = k then ⟨g, off, none⟩ else ⟨g, off + k, none⟩)) (len - k) (cap - k)) w := by
  subst hj
  have he : P.elem t = e := by simp [Program.elem, ht]
  rw [run_slice_l (P := P) w t (some ⟨g, off, none⟩) len cap (by rw [he]; exact ht) .i64 (k : Int) (by omega) (by omega), he]
  simp [sizeOf, typeInfo, hi, sliced, Addr.add, hsz]
  by_cases h : cap = k
  · simp [h]
  · by_cases h0 : k = 0
    · subst h0; simp [h]
    · simp [h, h0]
theorem LsW.app {w0 w w1 w' : World} {pb rb lb : Nat} {lv wv wv' : Value} {items : List Item} {L L' : List Nat} (c : LsW w0 w pb rb lb lv wv items L) (b : Below w.heap.size w w1) (s : Sl w' w0.heap.size 1 wv' L'.length (wantV L'))
    (g : w1.grownBy w' wv.ownBlock) (n : wv'.ownBlock = wv.ownBlock ∨ ∀ j, wv'.ownBlock = some j → w1.heap.size ≤ j) : LsW w0 (w'.setCell ⟨lb, 0, none⟩ wv') pb rb lb lv wv' items L' ∧ w'.cell? ⟨lb, 0, none⟩ = some wv ∧ w'.frozen? ⟨lb, 0, none⟩ = false :=
  c.put ((Keeps.below _ b).trans (Keeps.grown g (fun j hj => hj))) s (fun j hj => n.elim (fun e => .inl (e ▸ hj)) (fun e => .inr (Nat.le_trans b.size (e j hj))))
theorem wp_normal {P : Program} {c : Code} {Q : Exit → Act → World → Prop} {a : Act} {w : World} (h : c.wp P (Exit.then (fun a w => Q .normal a w) (fun _ _ _ => False)) a w) : c.wp P Q a w :=
  wp_mono h (fun e a w he => by cases e <;> first | exact he | exact he.elim)
theorem goL_mem {L : List Nat} {k : Nat} (hk : k ≤ L.length) {x : Nat × Nat} (h : x ∈ goL L k) : L[x.1]? = some x.2 := by
  simp only [goL, List.mem_map, List.mem_range] at h
  obtain ⟨j, hj, rfl⟩ := h
  have : j < L.length := by omega
  simp [List.getD, this]
theorem wantV_snoc (L : List Nat) (k : Nat) : wantV (L ++ [k]) = wantV L ++ [.int .i64 (k : Int)] := by simp [wantV]
theorem itemsN_snoc (L : List Nat) (k : Nat) : itemsN (L ++ [k]) = itemsN L ++ [bItem 0 k] := by simp [itemsN]
theorem itemsN_erase (L : List Nat) (k : Nat) : (itemsN L).eraseIdx k = itemsN (L.eraseIdx k) := by
  simp only [itemsN, List.eraseIdx_eq_take_drop_succ, List.map_append, List.map_take, List.map_drop]
theorem wantV_len (L : List Nat) : (wantV L).length = L.length := by simp [wantV]
theorem wantV_one (L : List Nat) : ∀ u ∈ wantV L, u.oneCell' = true := by
  intro u hu
  obtain ⟨x, _, rfl⟩ := List.mem_map.1 hu
  rfl
theorem srcA {w : World} {g off k cap n : Nat} {L : List Nat} (hr : ∀ j u, (wantV L)[j]? = some u → w.cell? ⟨g, off + j, none⟩ = some u) (hn : n = L.length) (hk : k ≤ n) (hc : n ≤ cap) :
    SrcIs w 1 (.slice (some (if cap = k then ⟨g, off, none⟩ else ⟨g, off + k, none⟩)) (n - k) (cap - k)) (n - k) (wantV (L.drop k)) := by
  refine .inr ⟨_, _, rfl, by rw [wantV_len, List.length_drop]; omega, fun j u hu => ?_⟩
  have hj : j < n - k := by have := (List.getElem?_eq_some_iff.1 hu).1; rw [wantV_len, List.length_drop] at this; omega
  rw [if_neg (by omega)]
  have e3 : (⟨g, off + k, none⟩ : Addr).add j = ⟨g, off + (k + j), none⟩ := by unfold Addr.add; split <;> simp_all [Nat.add_assoc]
  rw [e3]
  refine hr _ _ ?_
  rw [← hu]
  simp [wantV, List.getElem?_drop]
theorem srcP {w : World} {g off k cap : Nat} {L : List Nat} (hr : ∀ j u, (wantV L)[j]? = some u → w.cell? ⟨g, off + j, none⟩ = some u) (hk : k ≤ L.length) : SrcIs w 1 (.slice (some ⟨g, off, none⟩) k cap) k (wantV (L.take k)) := by
  refine .inr ⟨_, _, rfl, by rw [wantV_len, List.length_take]; omega, fun j u hu => ?_⟩
  have e3 : (⟨g, off, none⟩ : Addr).add j = ⟨g, off + j, none⟩ := by unfold Addr.add; split <;> simp_all
  rw [e3]
  refine hr _ _ ?_
  have hj : j < k := by have := (List.getElem?_eq_some_iff.1 hu).1; rw [wantV_len, List.length_take] at this; omega
  rw [← hu]
  simp [wantV, List.getElem?_take_of_lt hj]
theorem act_cells (x : ActX) (ho : ActOk x) : ∃ cs : List Value, actC x = cs ∧ cs[0]? = some (.int .i64 x.kind) ∧ cs[39]? = some (.int .i64 x.n) ∧ Hid (cs.length = 40) ∧
    Hid ((Tryz.prog.info? 46).map (·.size) = some (cs.toArray : Array Value).size) ∧ Hid ((Tryz.prog.info? 46).map (·.size) = some cs.length) ∧ Hid (((.int .i64 0 :: .int .i64 0 :: .int .i64 0 :: .int .i64 0 :: .int .i64 0 :: .int .i64 0 :: .int .i64 0 :: .int .i64 0 :: .int .i64 0 :: .int .i64 0 :: .slice none 0 0 :: .int .i64 0 :: .slice none 0 0 :: .int .i64 0 :: .int .i64 0 :: .int .i64 0 :: .int .i64 0 :: .int .i64 0 :: .slice none 0 0 :: .slice none 0 0 :: .int .i64 0 :: .int .i64 0 :: .int .i64 0 :: .int .i64 0 :: .int .i64 0 :: .int .i64 0 :: .int .i64 0 :: .int .i64 0 :: .string ⟨#[]⟩ :: .string ⟨#[]⟩ :: .slice none 0 0 :: .int .i64 0 :: .int .i64 0 :: .int .i64 0 :: .int .i64 0 :: .int .i64 0 :: .int .i64 0 :: .slice none 0 0 :: .slice none 0 0 :: .int .i64 0 :: []).toArray : Array Value).size = (cs.toArray : Array Value).size) ∧ Hid ((cs.toArray : Array Value).all (·.oneCell') = true) :=
  ⟨actC x, rfl, rfl, rfl, rfl, by rw [Hid, List.size_toArray, show (actC x).length = 40 from rfl]; kernel_rfl, by rw [Hid, show (actC x).length = 40 from rfl]; kernel_rfl, rfl, by rw [Hid]; simpa using ho.2.2.2⟩
set_option maxRecDepth 100000 in
set_option maxHeartbeats 12800000 in
theorem bagOnce_walk (v : Value) (xs : List ActX) (w : World) (hz : ActsAt w v xs) (hl : xs.length ≤ maxLen) (ho : ∀ x ∈ xs, ActOk x) (hw : Lw w) :
    Calls Tryz.prog 4 #[v] w fun e w' => e = .returned (.bool true) ∧ Below w.heap.size w w' := by
  have HZ := Lib.hid hz
  have HW := Lib.hid hw
  have HO := Lib.hid ho
  obtain ⟨az, capz, rfl, _⟩ := id hz
  clear hz hw ho
  unfold maxLen at hl
  obtain ⟨i0, hi, hz0, hz1, hz2⟩ := info_parts intInfo
  obtain ⟨zc, HZC, HIAZ, HSZZ, HONZ⟩ : ∃ zc : List Value, Hid (zc = (.int .i64 0 :: .int .i64 0 :: .int .i64 0 :: .int .i64 0 :: .int .i64 0 :: .int .i64 0 :: .int .i64 0 :: .int .i64 0 :: .int .i64 0 :: .slice none 0 0 :: .int .i64 0 :: .slice none 0 0 :: .int .i64 0 :: .int .i64 0 :: .int .i64 0 :: .int .i64 0 :: .int .i64 0 :: .slice none 0 0 :: .slice none 0 0 :: .int .i64 0 :: .int .i64 0 :: .int .i64 0 :: .int .i64 0 :: .int .i64 0 :: .int .i64 0 :: .int .i64 0 :: .int .i64 0 :: .string ⟨#[]⟩ :: .string ⟨#[]⟩ :: .slice none 0 0 :: .int .i64 0 :: .int .i64 0 :: .int .i64 0 :: .int .i64 0 :: .int .i64 0 :: .int .i64 0 :: .slice none 0 0 :: .slice none 0 0 :: [])) ∧ Hid ((Tryz.prog.info? 44).map (·.size) = some (zc.toArray : Array Value).size) ∧ Hid (((.int .i64 0 :: .int .i64 0 :: .int .i64 0 :: .int .i64 0 :: .int .i64 0 :: .int .i64 0 :: .int .i64 0 :: .int .i64 0 :: .int .i64 0 :: .slice none 0 0 :: .int .i64 0 :: .slice none 0 0 :: .int .i64 0 :: .int .i64 0 :: .int .i64 0 :: .int .i64 0 :: .int .i64 0 :: .slice none 0 0 :: .slice none 0 0 :: .int .i64 0 :: .int .i64 0 :: .int .i64 0 :: .int .i64 0 :: .int .i64 0 :: .int .i64 0 :: .int .i64 0 :: .int .i64 0 :: .string ⟨#[]⟩ :: .string ⟨#[]⟩ :: .slice none 0 0 :: .int .i64 0 :: .int .i64 0 :: .int .i64 0 :: .int .i64 0 :: .int .i64 0 :: .int .i64 0 :: .slice none 0 0 :: .slice none 0 0 :: []).toArray : Array Value).size = (zc.toArray : Array Value).size) ∧ Hid ((zc.toArray : Array Value).all (·.oneCell') = true) :=
    ⟨(.int .i64 0 :: .int .i64 0 :: .int .i64 0 :: .int .i64 0 :: .int .i64 0 :: .int .i64 0 :: .int .i64 0 :: .int .i64 0 :: .int .i64 0 :: .slice none 0 0 :: .int .i64 0 :: .slice none 0 0 :: .int .i64 0 :: .int .i64 0 :: .int .i64 0 :: .int .i64 0 :: .int .i64 0 :: .slice none 0 0 :: .slice none 0 0 :: .int .i64 0 :: .int .i64 0 :: .int .i64 0 :: .int .i64 0 :: .int .i64 0 :: .int .i64 0 :: .int .i64 0 :: .int .i64 0 :: .string ⟨#[]⟩ :: .string ⟨#[]⟩ :: .slice none 0 0 :: .int .i64 0 :: .int .i64 0 :: .int .i64 0 :: .int .i64 0 :: .int .i64 0 :: .int .i64 0 :: .slice none 0 0 :: .slice none 0 0 :: []), rfl, by rw [Hid]; kernel_rfl, rfl, by simp [Hid, Value.oneCell']⟩
  refine (callsIn_wide (n := 6)).1 ?_
  refine callsIn_of_wp_marks Tryz.func4 rfl trivial ?_ rfl
  simp only [Tryz.ntmps4, List.size_toArray, List.length_cons, List.length_nil, Nat.reduceAdd, Nat.reduceSub, Array.replicate_succ, Array.replicate_zero, List.push_toArray, List.append_toArray, List.nil_append, List.cons_append]
  refine wpIn_wide.2 ?_
  let zBP : Exit → Act → World → Prop := bodyPost Tryz.prog Tryz.f4 (fun _ _ => True)
  have R0 : Hid (Cl (w.alloc (.cells #[.bool false] 4)) w.heap.size [.bool false] 4) := Cl.new w _ _
  have B0 : Hid (Below w.heap.size w (w.alloc (.cells #[.bool false] 4))) := (Below.refl _ _).alloc (Nat.le_refl _) _
  go_upto_region 1 with (fail)
  generalize w.alloc (.cells #[.bool false] 4) = w0 at *
  go_wp2_with fail
  refine (awake_any w0 (HW.out.below B0.out)).mono ?_
  rintro e w1 ⟨rfl, hb1⟩
  have B1 := Lib.hid (bt B0.out hb1)
  have R1 := Lib.hid (R0.out.below hb1)
  clear hb1 B0 R0
  go_wp2_with fail
  refine (bagNew_any w1).mono ?_
  rintro e w2 ⟨rfl, h, hb⟩
  have H2 : Hid (BagW w2 w.heap.size w1.heap.size (.slice none 0 0) []) := ⟨h.c, Sl.nil _ _ _, h.n, B1.out.size, h.m⟩
  have B2 : Hid (Below w.heap.size w w2) := bt B1.out hb
  have R2 := Lib.hid (R1.out.below hb)
  have HR : Hid (Apart w1.heap.size (.slice none 0 0) w.heap.size) := ⟨by have := R1.out.lt; omega, fun j hj => by simp [Value.ownBlock] at hj⟩
  clear h hb R1 B1
  have C3 : Hid (LsW w ((w2.alloc (.cells #[] 3)).alloc (.cells #[.slice (some ⟨w2.heap.size, 0, none⟩) 0 0] 30)) w1.heap.size w.heap.size (w2.heap.size + 1) (.slice none 0 0) (.slice (some ⟨w2.heap.size, 0, none⟩) 0 0) [] []) := by
    have h1 : (w2.alloc (.cells #[] 3)).ownsRow w.heap.size 3 1 (.slice (some ⟨w2.heap.size, 0, none⟩) 0 0) 0 [] := World.ownsRow_made w2 #[] 0 B2.out.size (by unfold maxLen; omega) rfl
    have b3 : Below w2.heap.size w2 (w2.alloc (.cells #[] 3)) := (Below.refl _ _).alloc (Nat.le_refl _) _
    have b4 : Below (w2.alloc (.cells #[] 3)).heap.size (w2.alloc (.cells #[] 3)) ((w2.alloc (.cells #[] 3)).alloc (.cells #[.slice (some ⟨w2.heap.size, 0, none⟩) 0 0] 30)) := (Below.refl _ _).alloc (Nat.le_refl _) _
    have hs := World.size_alloc w2 (.cells #[] 3)
    have h2 := (H2.out.below b3).below b4
    have hl2 := R2.out.lt
    have hbs := B2.out.size
    have hpb := H2.out.c.lt
    refine ⟨h2, (R2.out.below b3).below b4, ?_, (Sl.ofOwn h1).kept (Keeps.below (fun _ => False) b4) (fun _ _ => id), fun j hj => ?_, HR.out, ?_, fun j hj => ?_, by omega, bt (bt B2.out b3) b4, by omega⟩
    · have := Cl.new (w2.alloc (.cells #[] 3)) [.slice (some ⟨w2.heap.size, 0, none⟩) 0 0] 30
      rw [hs] at this
      exact this
    · simp [Value.ownBlock] at hj
      exact H2.out.apart (by omega)
    · exact ⟨by omega, fun j hj => by simp [Value.ownBlock] at hj⟩
    · simp [Value.ownBlock] at hj
      omega
  go_upto_region 5 with (fail)
  first | rw [World.size_alloc] | skip
  generalize (w2.alloc (.cells #[] 3)).alloc (.cells #[.slice (some ⟨w2.heap.size, 0, none⟩) 0 0] 30) = w3 at *
  generalize (Value.slice (some ⟨w2.heap.size, 0, none⟩) 0 0) = wv0 at *
  generalize w1.heap.size = pb at *
  generalize w2.heap.size + 1 = lb at *
  clear H2 B2 R2 HR
  generalize hrb : w.heap.size = rb at *
  have HRB := Lib.hid hrb
  clear hrb
  rename_i hsl
  clear hsl
  go_wp2
  go_loopw [5] (fun ti wr => ∃ (k : Nat) (lv wv : Value) (L : List Nat), ti = .int .i64 k ∧ k ≤ xs.length ∧ k ≤ 400 ∧ L.length ≤ 256 ∧ (∀ x ∈ L, x < 400) ∧ LsW w wr pb rb lb lv wv (itemsN L) L) (fun ti _ => xs.length - (intOf ti).toNat)
  case atStart => exact ⟨0, _, _, [], rfl, by omega, by omega, by simp, by simp, C3.out⟩
  case round =>
    obtain ⟨k, lv, wv, L, rfl, hk, hk2, hL, hLm, hC⟩ := hrel
    have CK := Lib.hid hC
    have HLM := Lib.hid hLm
    clear hC C3 hLm
    by_cases hgo : k < xs.length ∧ k < 400
    · obtain ⟨hlt, h60⟩ := hgo
      have hlti : (k : Int) < (xs.length : Int) := by omega
      have h60i : (k : Int) < 400 := by omega
      obtain ⟨x, hx⟩ : ∃ x, xs[k]? = some x := ⟨xs[k], by simp [hlt]⟩
      have hox := HO.out x (List.mem_of_getElem? hx)
      obtain ⟨az', capz', he, hz⟩ := HZ.out
      obtain ⟨g, off, e1, hg, hr, _⟩ := hz k x hx
      injection he with f1 f2 f3
      subst f1 f3 e1
      obtain ⟨cs, hcs, h0, h39, HLN, HIA, HIL, HSZ, HON⟩ := act_cells x hox
      rw [hcs] at hr
      have RG : Hid (wr.rangeAt g (off + k * 40) cs) := fun j u hu => (CK.out.bel.cell (p := ⟨g, off + k * 40 + j, none⟩) hg).trans (hr j u hu)
      generalize x.kind = kd at h0
      generalize x.n = n at h39
      clear hx hox hz hr hcs f2
      have CM : Hid ((wr.alloc (.cells (.int .i64 0 :: .int .i64 0 :: .int .i64 0 :: .int .i64 0 :: .int .i64 0 :: .int .i64 0 :: .int .i64 0 :: .int .i64 0 :: .int .i64 0 :: .int .i64 0 :: .slice none 0 0 :: .int .i64 0 :: .slice none 0 0 :: .int .i64 0 :: .int .i64 0 :: .int .i64 0 :: .int .i64 0 :: .int .i64 0 :: .slice none 0 0 :: .slice none 0 0 :: .int .i64 0 :: .int .i64 0 :: .int .i64 0 :: .int .i64 0 :: .int .i64 0 :: .int .i64 0 :: .int .i64 0 :: .int .i64 0 :: .string ⟨#[]⟩ :: .string ⟨#[]⟩ :: .slice none 0 0 :: .int .i64 0 :: .int .i64 0 :: .int .i64 0 :: .int .i64 0 :: .int .i64 0 :: .int .i64 0 :: .slice none 0 0 :: .slice none 0 0 :: .int .i64 0 :: []).toArray 46)).heap[wr.heap.size]? = some (.cells (.int .i64 0 :: .int .i64 0 :: .int .i64 0 :: .int .i64 0 :: .int .i64 0 :: .int .i64 0 :: .int .i64 0 :: .int .i64 0 :: .int .i64 0 :: .int .i64 0 :: .slice none 0 0 :: .int .i64 0 :: .slice none 0 0 :: .int .i64 0 :: .int .i64 0 :: .int .i64 0 :: .int .i64 0 :: .int .i64 0 :: .slice none 0 0 :: .slice none 0 0 :: .int .i64 0 :: .int .i64 0 :: .int .i64 0 :: .int .i64 0 :: .int .i64 0 :: .int .i64 0 :: .int .i64 0 :: .int .i64 0 :: .string ⟨#[]⟩ :: .string ⟨#[]⟩ :: .slice none 0 0 :: .int .i64 0 :: .int .i64 0 :: .int .i64 0 :: .int .i64 0 :: .int .i64 0 :: .int .i64 0 :: .slice none 0 0 :: .slice none 0 0 :: .int .i64 0 :: []).toArray 46 (0, 0))) := Cl.new wr (.int .i64 0 :: .int .i64 0 :: .int .i64 0 :: .int .i64 0 :: .int .i64 0 :: .int .i64 0 :: .int .i64 0 :: .int .i64 0 :: .int .i64 0 :: .int .i64 0 :: .slice none 0 0 :: .int .i64 0 :: .slice none 0 0 :: .int .i64 0 :: .int .i64 0 :: .int .i64 0 :: .int .i64 0 :: .int .i64 0 :: .slice none 0 0 :: .slice none 0 0 :: .int .i64 0 :: .int .i64 0 :: .int .i64 0 :: .int .i64 0 :: .int .i64 0 :: .int .i64 0 :: .int .i64 0 :: .int .i64 0 :: .string ⟨#[]⟩ :: .string ⟨#[]⟩ :: .slice none 0 0 :: .int .i64 0 :: .int .i64 0 :: .int .i64 0 :: .int .i64 0 :: .int .i64 0 :: .int .i64 0 :: .slice none 0 0 :: .slice none 0 0 :: .int .i64 0 :: []) _
      have M5 : Hid (Cl ((wr.alloc (.cells (.int .i64 0 :: .int .i64 0 :: .int .i64 0 :: .int .i64 0 :: .int .i64 0 :: .int .i64 0 :: .int .i64 0 :: .int .i64 0 :: .int .i64 0 :: .int .i64 0 :: .slice none 0 0 :: .int .i64 0 :: .slice none 0 0 :: .int .i64 0 :: .int .i64 0 :: .int .i64 0 :: .int .i64 0 :: .int .i64 0 :: .slice none 0 0 :: .slice none 0 0 :: .int .i64 0 :: .int .i64 0 :: .int .i64 0 :: .int .i64 0 :: .int .i64 0 :: .int .i64 0 :: .int .i64 0 :: .int .i64 0 :: .string ⟨#[]⟩ :: .string ⟨#[]⟩ :: .slice none 0 0 :: .int .i64 0 :: .int .i64 0 :: .int .i64 0 :: .int .i64 0 :: .int .i64 0 :: .int .i64 0 :: .slice none 0 0 :: .slice none 0 0 :: .int .i64 0 :: []).toArray 46)).setRow wr.heap.size cs.toArray) wr.heap.size cs 46) := by
        have := Cl.row (Cl.new wr (.int .i64 0 :: .int .i64 0 :: .int .i64 0 :: .int .i64 0 :: .int .i64 0 :: .int .i64 0 :: .int .i64 0 :: .int .i64 0 :: .int .i64 0 :: .int .i64 0 :: .slice none 0 0 :: .int .i64 0 :: .slice none 0 0 :: .int .i64 0 :: .int .i64 0 :: .int .i64 0 :: .int .i64 0 :: .int .i64 0 :: .slice none 0 0 :: .slice none 0 0 :: .int .i64 0 :: .int .i64 0 :: .int .i64 0 :: .int .i64 0 :: .int .i64 0 :: .int .i64 0 :: .int .i64 0 :: .int .i64 0 :: .string ⟨#[]⟩ :: .string ⟨#[]⟩ :: .slice none 0 0 :: .int .i64 0 :: .int .i64 0 :: .int .i64 0 :: .int .i64 0 :: .int .i64 0 :: .int .i64 0 :: .slice none 0 0 :: .slice none 0 0 :: .int .i64 0 :: []) 46) cs.toArray
        rwa [List.toList_toArray] at this
      have B5 : Hid (Below wr.heap.size wr ((wr.alloc (.cells (.int .i64 0 :: .int .i64 0 :: .int .i64 0 :: .int .i64 0 :: .int .i64 0 :: .int .i64 0 :: .int .i64 0 :: .int .i64 0 :: .int .i64 0 :: .int .i64 0 :: .slice none 0 0 :: .int .i64 0 :: .slice none 0 0 :: .int .i64 0 :: .int .i64 0 :: .int .i64 0 :: .int .i64 0 :: .int .i64 0 :: .slice none 0 0 :: .slice none 0 0 :: .int .i64 0 :: .int .i64 0 :: .int .i64 0 :: .int .i64 0 :: .int .i64 0 :: .int .i64 0 :: .int .i64 0 :: .int .i64 0 :: .string ⟨#[]⟩ :: .string ⟨#[]⟩ :: .slice none 0 0 :: .int .i64 0 :: .int .i64 0 :: .int .i64 0 :: .int .i64 0 :: .int .i64 0 :: .int .i64 0 :: .slice none 0 0 :: .slice none 0 0 :: .int .i64 0 :: []).toArray 46)).setRow wr.heap.size cs.toArray)) := ((Below.refl _ _).alloc (Nat.le_refl _) _).trans ((Keeps.row (S := fun j => j = wr.heap.size) _ wr.heap.size _ rfl).toBelow (by simp) (fun k hk e => by omega))
      go_upto_region 9 with (first
        | (refine wpList_load_mid (by rfl) _ _ (by rfl) g (off + k * 40) (by rfl) cs _ RG.out Tryz.underlying46 (by rfl) HIL.out ?_)
        | (refine wpList_store_row (by rfl) _ _ _ (by rfl) wr.heap.size cs.toArray (by rfl) (by rfl) 46 _ CM.out HIA.out HSZ.out HON.out ?_))
      generalize (wr.alloc (.cells (.int .i64 0 :: .int .i64 0 :: .int .i64 0 :: .int .i64 0 :: .int .i64 0 :: .int .i64 0 :: .int .i64 0 :: .int .i64 0 :: .int .i64 0 :: .int .i64 0 :: .slice none 0 0 :: .int .i64 0 :: .slice none 0 0 :: .int .i64 0 :: .int .i64 0 :: .int .i64 0 :: .int .i64 0 :: .int .i64 0 :: .slice none 0 0 :: .slice none 0 0 :: .int .i64 0 :: .int .i64 0 :: .int .i64 0 :: .int .i64 0 :: .int .i64 0 :: .int .i64 0 :: .int .i64 0 :: .int .i64 0 :: .string ⟨#[]⟩ :: .string ⟨#[]⟩ :: .slice none 0 0 :: .int .i64 0 :: .int .i64 0 :: .int .i64 0 :: .int .i64 0 :: .int .i64 0 :: .int .i64 0 :: .slice none 0 0 :: .slice none 0 0 :: .int .i64 0 :: []).toArray 46)).setRow wr.heap.size cs.toArray = w5 at *
      have C5 := Lib.hid (CK.out.below B5.out)
      clear CM RG CK B5 HIA HIL HSZ HON HLN
      generalize wr.heap.size = pa at *
      have d39 : w5.cell? ⟨pa, 39, none⟩ = some (.int .i64 n) := (M5.out.cell 39).trans h39
      have d0 : w5.cell? ⟨pa, 0, none⟩ = some (.int .i64 kd) := (M5.out.cell 0).trans h0
      obtain ⟨aw, capw, hwv, _⟩ := C5.out.s.form
      subst hwv
      have db : w5.cell? ⟨lb, 0, none⟩ = some (.slice aw L.length capw) := C5.out.b.cell 0
      clear h0 h39 M5
      obtain ⟨isb, hisb⟩ : ∃ b, b = decide (0 ≤ n ∧ n < (L.length : Int)) := ⟨_, rfl⟩
      have HIS := Lib.hid hisb
      clear hisb
      go_upto_region 10 with (fail)
      go_cut [8] (fun t8 wz => t8 = .bool isb ∧ wz = w5)
      case first =>
        by_cases n0 : 0 ≤ n
        · by_cases n1 : n < (L.length : Int)
          · have HT : Hid (isb = true) := by rw [Hid, HIS.out]; exact decide_eq_true ⟨n0, n1⟩
            go_wp2
            go_meet
            case rel => exact ⟨by rw [HT.out], rfl⟩
          · have HT : Hid (isb = false) := by rw [Hid, HIS.out]; exact decide_eq_false (fun h => n1 h.2)
            go_wp2
            go_meet
            case rel => exact ⟨by rw [HT.out], rfl⟩
        · have HT : Hid (isb = false) := by rw [Hid, HIS.out]; exact decide_eq_false (fun h => n0 h.1)
          go_wp2
          go_meet
          case rel => exact ⟨by rw [HT.out], rfl⟩
      case rest =>
        obtain ⟨rfl, hwc⟩ := hcut
        have hwc' := hwc.symm
        clear hwc
        subst hwc'
        go_upto_block 2 with (fail)
        have HKD : Hid (w5.cell? ⟨pa, 0, none⟩ = some (.int .i64 kd)) := d0
        clear d39 d0
        go_cut [] (fun wz => ∃ (lv' wv' : Value) (L' : List Nat), L'.length ≤ 256 ∧ (∀ x ∈ L', x < 400) ∧ LsW w wz pb rb lb lv' wv' (itemsN L') L')
        case first =>
          by_cases hk1 : kd = 1
          · as_aux_lemma =>
            subst hk1
            obtain ⟨cs1, HM, h7, h2, HLN, HIA, HSZ, HON⟩ := beat_cells 0 k
            have HPP := Lib.hid (bagPut_b w.heap.size pb lv (itemsN L) 0 k (by omega) (by omega) (by omega) (by omega))
            rw [HM.out] at HPP
            go_wp2_with fail
            refine (beat_any k w5).mono ?_
            rw [HM.out]
            rintro e w6 ⟨rfl, hb⟩
            have C6 := Lib.hid (C5.out.below hb)
            clear hb C5 db
            go_wp2_with fail
            refine (HPP.out w6 C6.out.h C6.out.bel.size (HW.out.below C6.out.bel)).mono ?_
            clear HPP
            unfold PutPost
            rw [itemsN_len]
            by_cases hlt : L.length < 256
            · rw [if_pos hlt, if_pos hlt]
              rintro e w7 ⟨rfl, lv7, h, hb⟩
              have C7 := Lib.hid (C6.out.bag h hb)
              have hlti2 : (L.length : Int) < 256 := by omega
              have db : w7.cell? ⟨lb, 0, none⟩ = some (.slice aw L.length capw) := C7.out.b.cell 0
              clear h hb C6
              have SL7 : Hid (Sl (w7.alloc (.cells #[.int .i64 (k : Int)] 3)) w.heap.size 1 (.slice aw L.length capw) L.length (wantV L)) := C7.out.s.kept (Keeps.alloc (fun _ => False) _ _) (fun _ _ => id)
              have hsrc : Hid (SrcIs (w7.alloc (.cells #[.int .i64 (k : Int)] 3)) 1 (.slice (some ⟨w7.heap.size, 0, none⟩) 1 1) 1 [.int .i64 (k : Int)]) := (Cl.new w7 [.int .i64 (k : Int)] 3).src 1 1 1 rfl
              have hbs := C7.out.bel.size
              have PUT := Lib.hid (fun (w9 : World) (wv' : Value) s g n => C7.out.app (L' := L ++ [k]) (w' := w9) (wv' := wv') ((Below.refl _ _).alloc (Nat.le_refl _) (.cells #[.int .i64 (k : Int)] 3)) s g n)
              go_wp2_with (at_builtin; refine wpList_append_sl rfl (.tmp 63) (.tmp 65) 30 rfl 3 i0 (.int .i64 0) 1 8 Tryz.underlying30 hi hz0 hz1 hz2 rfl (by decide) w.heap.size _ _ _ rfl SL7.out _ _ _ rfl hsrc.out ?_ ?_ ?_ ?_ ?_)
              · simp [Value.oneCell']
              · unfold maxLen; omega
              · omega
              · simp; omega
              intro wv' w9 hown hgr hnew
              obtain ⟨hC9, hc9, hf9⟩ := PUT.out w9 wv' (by rw [List.length_append, wantV_snoc]; exact hown) hgr (by rw [World.size_alloc]; exact hnew)
              have C9 := Lib.hid hC9
              obtain ⟨aw9, capw9, hwv9, _⟩ := hC9.s.form
              have hwv9' : wv' = .slice aw9 (L.length + 1) capw9 := by simpa using hwv9
              clear hwv9
              subst hwv9'
              clear hC9 hown hgr hnew PUT SL7 hsrc C7 db
              go_wp2
              go_meet
              case rel => exact ⟨lv7, _, L ++ [k], by simp; omega, fun x hx => by rcases List.mem_append.1 hx with h | h; exact HLM.out x h; simp at h; omega, by rw [itemsN_snoc]; exact C9.out⟩
            · rw [if_neg hlt, if_neg hlt]
              rintro e w7 ⟨rfl, lv7, h, hb⟩
              have C7 := Lib.hid (C6.out.bag h hb)
              have hlti2 : ¬ ((L.length : Int) < 256) := by omega
              have db : w7.cell? ⟨lb, 0, none⟩ = some (.slice aw L.length capw) := C7.out.b.cell 0
              clear h hb C6
              go_wp2
              go_meet
              case rel => exact ⟨lv7, _, L, hL, HLM.out, C7.out⟩
          · have hk1i : (kd == 1) = false := beq_eq_false_iff_ne.2 hk1
            by_cases hk2 : kd = 2
            · as_aux_lemma =>
              subst hk2
              clear hk1i hk1
              cases isb with
              | false =>
                have hno : ¬ (0 ≤ n ∧ n < ((itemsN L).length : Int)) := by rw [itemsN_len]; exact of_decide_eq_false HIS.out.symm
                have HT := Lib.hid (bagTake_no w.heap.size pb lv (itemsN L) n hno w5 C5.out.h)
                clear hno
                unfold NoPost at HT
                rw [← HZC.out] at HT
                go_wp2_with fail
                refine HT.out.mono ?_
                rintro e w6 ⟨rfl, h, hb⟩
                have C6 := Lib.hid (C5.out.below hb)
                clear h hb HT C5 db
                have CM6 : Hid ((w6.alloc (.cells (.int .i64 0 :: .int .i64 0 :: .int .i64 0 :: .int .i64 0 :: .int .i64 0 :: .int .i64 0 :: .int .i64 0 :: .int .i64 0 :: .int .i64 0 :: .slice none 0 0 :: .int .i64 0 :: .slice none 0 0 :: .int .i64 0 :: .int .i64 0 :: .int .i64 0 :: .int .i64 0 :: .int .i64 0 :: .slice none 0 0 :: .slice none 0 0 :: .int .i64 0 :: .int .i64 0 :: .int .i64 0 :: .int .i64 0 :: .int .i64 0 :: .int .i64 0 :: .int .i64 0 :: .int .i64 0 :: .string ⟨#[]⟩ :: .string ⟨#[]⟩ :: .slice none 0 0 :: .int .i64 0 :: .int .i64 0 :: .int .i64 0 :: .int .i64 0 :: .int .i64 0 :: .int .i64 0 :: .slice none 0 0 :: .slice none 0 0 :: []).toArray 44)).heap[w6.heap.size]? = some (.cells (.int .i64 0 :: .int .i64 0 :: .int .i64 0 :: .int .i64 0 :: .int .i64 0 :: .int .i64 0 :: .int .i64 0 :: .int .i64 0 :: .int .i64 0 :: .slice none 0 0 :: .int .i64 0 :: .slice none 0 0 :: .int .i64 0 :: .int .i64 0 :: .int .i64 0 :: .int .i64 0 :: .int .i64 0 :: .slice none 0 0 :: .slice none 0 0 :: .int .i64 0 :: .int .i64 0 :: .int .i64 0 :: .int .i64 0 :: .int .i64 0 :: .int .i64 0 :: .int .i64 0 :: .int .i64 0 :: .string ⟨#[]⟩ :: .string ⟨#[]⟩ :: .slice none 0 0 :: .int .i64 0 :: .int .i64 0 :: .int .i64 0 :: .int .i64 0 :: .int .i64 0 :: .int .i64 0 :: .slice none 0 0 :: .slice none 0 0 :: []).toArray 44 (0, 0))) := Cl.new w6 (.int .i64 0 :: .int .i64 0 :: .int .i64 0 :: .int .i64 0 :: .int .i64 0 :: .int .i64 0 :: .int .i64 0 :: .int .i64 0 :: .int .i64 0 :: .slice none 0 0 :: .int .i64 0 :: .slice none 0 0 :: .int .i64 0 :: .int .i64 0 :: .int .i64 0 :: .int .i64 0 :: .int .i64 0 :: .slice none 0 0 :: .slice none 0 0 :: .int .i64 0 :: .int .i64 0 :: .int .i64 0 :: .int .i64 0 :: .int .i64 0 :: .int .i64 0 :: .int .i64 0 :: .int .i64 0 :: .string ⟨#[]⟩ :: .string ⟨#[]⟩ :: .slice none 0 0 :: .int .i64 0 :: .int .i64 0 :: .int .i64 0 :: .int .i64 0 :: .int .i64 0 :: .int .i64 0 :: .slice none 0 0 :: .slice none 0 0 :: []) _
                have B7 : Hid (Below w6.heap.size w6 ((w6.alloc (.cells (.int .i64 0 :: .int .i64 0 :: .int .i64 0 :: .int .i64 0 :: .int .i64 0 :: .int .i64 0 :: .int .i64 0 :: .int .i64 0 :: .int .i64 0 :: .slice none 0 0 :: .int .i64 0 :: .slice none 0 0 :: .int .i64 0 :: .int .i64 0 :: .int .i64 0 :: .int .i64 0 :: .int .i64 0 :: .slice none 0 0 :: .slice none 0 0 :: .int .i64 0 :: .int .i64 0 :: .int .i64 0 :: .int .i64 0 :: .int .i64 0 :: .int .i64 0 :: .int .i64 0 :: .int .i64 0 :: .string ⟨#[]⟩ :: .string ⟨#[]⟩ :: .slice none 0 0 :: .int .i64 0 :: .int .i64 0 :: .int .i64 0 :: .int .i64 0 :: .int .i64 0 :: .int .i64 0 :: .slice none 0 0 :: .slice none 0 0 :: []).toArray 44)).setRow w6.heap.size zc.toArray)) := ((Below.refl _ _).alloc (Nat.le_refl _) _).trans ((Keeps.row (S := fun j => j = w6.heap.size) _ w6.heap.size _ rfl).toBelow (by simp) (fun k hk e => by omega))
                go_upto_region 20 with (refine wpList_store_row (by rfl) _ _ _ (by rfl) w6.heap.size zc.toArray (by rfl) (by rfl) 44 _ CM6.out HIAZ.out HSZZ.out HONZ.out ?_)
                generalize (w6.alloc (.cells (.int .i64 0 :: .int .i64 0 :: .int .i64 0 :: .int .i64 0 :: .int .i64 0 :: .int .i64 0 :: .int .i64 0 :: .int .i64 0 :: .int .i64 0 :: .slice none 0 0 :: .int .i64 0 :: .slice none 0 0 :: .int .i64 0 :: .int .i64 0 :: .int .i64 0 :: .int .i64 0 :: .int .i64 0 :: .slice none 0 0 :: .slice none 0 0 :: .int .i64 0 :: .int .i64 0 :: .int .i64 0 :: .int .i64 0 :: .int .i64 0 :: .int .i64 0 :: .int .i64 0 :: .int .i64 0 :: .string ⟨#[]⟩ :: .string ⟨#[]⟩ :: .slice none 0 0 :: .int .i64 0 :: .int .i64 0 :: .int .i64 0 :: .int .i64 0 :: .int .i64 0 :: .int .i64 0 :: .slice none 0 0 :: .slice none 0 0 :: []).toArray 44)).setRow w6.heap.size zc.toArray = w7 at *
                have C7 := Lib.hid (C6.out.below B7.out)
                clear C6 CM6 B7
                refine wp_region_below (by kernel_rfl) (by kernel_rfl) ?_
                repeat (go_big_quiet_step (fail))
                refine wpQuiet_nil ?_
                intro w8 h8
                obtain ⟨⟨w8, hb8⟩, rfl⟩ := h8
                have C8 : Hid (LsW w w8 pb rb lb lv (.slice aw L.length capw) (itemsN L) L) := C7.out.below hb8
                clear hb8 C7
                go_wp2
                go_meet
                case rel => exact ⟨lv, _, L, hL, HLM.out, C8.out⟩
              | true =>
                obtain ⟨hn0, hn1⟩ := of_decide_eq_true HIS.out.symm
                obtain ⟨nn, rfl⟩ := Int.eq_ofNat_of_zero_le hn0
                have hnn : nn < L.length := by omega
                obtain ⟨m0, hm0⟩ : ∃ m0, L[nn]? = some m0 := ⟨L[nn], by simp [hnn]⟩
                have hmm := HLM.out m0 (List.mem_of_getElem? hm0)
                have HM0 := Lib.hid hm0
                have HNN := Lib.hid hnn
                obtain ⟨cs1, HM, h7, h2, HLN, HIA, HSZ, HON⟩ := beat_cells 0 m0
                have HT := bagTake_b w.heap.size pb lv (itemsN L) nn 0 m0 (by simp [itemsN, hm0]) (by omega) (by omega) (by omega) (by omega) w5 C5.out.h C5.out.bel.size (HW.out.below C5.out.bel)
                unfold TakeB at HT
                rw [HM.out, itemsN_erase] at HT
                have HTT := Lib.hid HT
                clear HT hm0 hn0 HM
                go_wp2_with fail
                refine HTT.out.mono ?_
                rintro e w6 ⟨rfl, lv6, h, hb⟩
                have C6 := Lib.hid (C5.out.bag h hb)
                clear h hb HTT C5 db
                have CM6 : Hid ((w6.alloc (.cells (.int .i64 0 :: .int .i64 0 :: .int .i64 0 :: .int .i64 0 :: .int .i64 0 :: .int .i64 0 :: .int .i64 0 :: .int .i64 0 :: .int .i64 0 :: .slice none 0 0 :: .int .i64 0 :: .slice none 0 0 :: .int .i64 0 :: .int .i64 0 :: .int .i64 0 :: .int .i64 0 :: .int .i64 0 :: .slice none 0 0 :: .slice none 0 0 :: .int .i64 0 :: .int .i64 0 :: .int .i64 0 :: .int .i64 0 :: .int .i64 0 :: .int .i64 0 :: .int .i64 0 :: .int .i64 0 :: .string ⟨#[]⟩ :: .string ⟨#[]⟩ :: .slice none 0 0 :: .int .i64 0 :: .int .i64 0 :: .int .i64 0 :: .int .i64 0 :: .int .i64 0 :: .int .i64 0 :: .slice none 0 0 :: .slice none 0 0 :: []).toArray 44)).heap[w6.heap.size]? = some (.cells (.int .i64 0 :: .int .i64 0 :: .int .i64 0 :: .int .i64 0 :: .int .i64 0 :: .int .i64 0 :: .int .i64 0 :: .int .i64 0 :: .int .i64 0 :: .slice none 0 0 :: .int .i64 0 :: .slice none 0 0 :: .int .i64 0 :: .int .i64 0 :: .int .i64 0 :: .int .i64 0 :: .int .i64 0 :: .slice none 0 0 :: .slice none 0 0 :: .int .i64 0 :: .int .i64 0 :: .int .i64 0 :: .int .i64 0 :: .int .i64 0 :: .int .i64 0 :: .int .i64 0 :: .int .i64 0 :: .string ⟨#[]⟩ :: .string ⟨#[]⟩ :: .slice none 0 0 :: .int .i64 0 :: .int .i64 0 :: .int .i64 0 :: .int .i64 0 :: .int .i64 0 :: .int .i64 0 :: .slice none 0 0 :: .slice none 0 0 :: []).toArray 44 (0, 0))) := Cl.new w6 (.int .i64 0 :: .int .i64 0 :: .int .i64 0 :: .int .i64 0 :: .int .i64 0 :: .int .i64 0 :: .int .i64 0 :: .int .i64 0 :: .int .i64 0 :: .slice none 0 0 :: .int .i64 0 :: .slice none 0 0 :: .int .i64 0 :: .int .i64 0 :: .int .i64 0 :: .int .i64 0 :: .int .i64 0 :: .slice none 0 0 :: .slice none 0 0 :: .int .i64 0 :: .int .i64 0 :: .int .i64 0 :: .int .i64 0 :: .int .i64 0 :: .int .i64 0 :: .int .i64 0 :: .int .i64 0 :: .string ⟨#[]⟩ :: .string ⟨#[]⟩ :: .slice none 0 0 :: .int .i64 0 :: .int .i64 0 :: .int .i64 0 :: .int .i64 0 :: .int .i64 0 :: .int .i64 0 :: .slice none 0 0 :: .slice none 0 0 :: []) _
                have M7 : Hid (Cl ((w6.alloc (.cells (.int .i64 0 :: .int .i64 0 :: .int .i64 0 :: .int .i64 0 :: .int .i64 0 :: .int .i64 0 :: .int .i64 0 :: .int .i64 0 :: .int .i64 0 :: .slice none 0 0 :: .int .i64 0 :: .slice none 0 0 :: .int .i64 0 :: .int .i64 0 :: .int .i64 0 :: .int .i64 0 :: .int .i64 0 :: .slice none 0 0 :: .slice none 0 0 :: .int .i64 0 :: .int .i64 0 :: .int .i64 0 :: .int .i64 0 :: .int .i64 0 :: .int .i64 0 :: .int .i64 0 :: .int .i64 0 :: .string ⟨#[]⟩ :: .string ⟨#[]⟩ :: .slice none 0 0 :: .int .i64 0 :: .int .i64 0 :: .int .i64 0 :: .int .i64 0 :: .int .i64 0 :: .int .i64 0 :: .slice none 0 0 :: .slice none 0 0 :: []).toArray 44)).setRow w6.heap.size cs1.toArray) w6.heap.size cs1 44) := by
                  have := Cl.row (Cl.new w6 (.int .i64 0 :: .int .i64 0 :: .int .i64 0 :: .int .i64 0 :: .int .i64 0 :: .int .i64 0 :: .int .i64 0 :: .int .i64 0 :: .int .i64 0 :: .slice none 0 0 :: .int .i64 0 :: .slice none 0 0 :: .int .i64 0 :: .int .i64 0 :: .int .i64 0 :: .int .i64 0 :: .int .i64 0 :: .slice none 0 0 :: .slice none 0 0 :: .int .i64 0 :: .int .i64 0 :: .int .i64 0 :: .int .i64 0 :: .int .i64 0 :: .int .i64 0 :: .int .i64 0 :: .int .i64 0 :: .string ⟨#[]⟩ :: .string ⟨#[]⟩ :: .slice none 0 0 :: .int .i64 0 :: .int .i64 0 :: .int .i64 0 :: .int .i64 0 :: .int .i64 0 :: .int .i64 0 :: .slice none 0 0 :: .slice none 0 0 :: []) 44) cs1.toArray
                  rwa [List.toList_toArray] at this
                have B7 : Hid (Below w6.heap.size w6 ((w6.alloc (.cells (.int .i64 0 :: .int .i64 0 :: .int .i64 0 :: .int .i64 0 :: .int .i64 0 :: .int .i64 0 :: .int .i64 0 :: .int .i64 0 :: .int .i64 0 :: .slice none 0 0 :: .int .i64 0 :: .slice none 0 0 :: .int .i64 0 :: .int .i64 0 :: .int .i64 0 :: .int .i64 0 :: .int .i64 0 :: .slice none 0 0 :: .slice none 0 0 :: .int .i64 0 :: .int .i64 0 :: .int .i64 0 :: .int .i64 0 :: .int .i64 0 :: .int .i64 0 :: .int .i64 0 :: .int .i64 0 :: .string ⟨#[]⟩ :: .string ⟨#[]⟩ :: .slice none 0 0 :: .int .i64 0 :: .int .i64 0 :: .int .i64 0 :: .int .i64 0 :: .int .i64 0 :: .int .i64 0 :: .slice none 0 0 :: .slice none 0 0 :: []).toArray 44)).setRow w6.heap.size cs1.toArray)) := ((Below.refl _ _).alloc (Nat.le_refl _) _).trans ((Keeps.row (S := fun j => j = w6.heap.size) _ w6.heap.size _ rfl).toBelow (by simp) (fun k hk e => by omega))
                go_upto_region 20 with (refine wpList_store_row (by rfl) _ _ _ (by rfl) w6.heap.size cs1.toArray (by rfl) (by rfl) 44 _ CM6.out HIA.out HSZ.out HON.out ?_)
                generalize (w6.alloc (.cells (.int .i64 0 :: .int .i64 0 :: .int .i64 0 :: .int .i64 0 :: .int .i64 0 :: .int .i64 0 :: .int .i64 0 :: .int .i64 0 :: .int .i64 0 :: .slice none 0 0 :: .int .i64 0 :: .slice none 0 0 :: .int .i64 0 :: .int .i64 0 :: .int .i64 0 :: .int .i64 0 :: .int .i64 0 :: .slice none 0 0 :: .slice none 0 0 :: .int .i64 0 :: .int .i64 0 :: .int .i64 0 :: .int .i64 0 :: .int .i64 0 :: .int .i64 0 :: .int .i64 0 :: .int .i64 0 :: .string ⟨#[]⟩ :: .string ⟨#[]⟩ :: .slice none 0 0 :: .int .i64 0 :: .int .i64 0 :: .int .i64 0 :: .int .i64 0 :: .int .i64 0 :: .int .i64 0 :: .slice none 0 0 :: .slice none 0 0 :: []).toArray 44)).setRow w6.heap.size cs1.toArray = w7 at *
                have C7 := Lib.hid (C6.out.below B7.out)
                clear C6 CM6 B7
                generalize w6.heap.size = pm at *
                obtain ⟨gw, offw, capw2, hv2, hgw, hcw⟩ := C7.out.s.at (by omega)
                injection hv2 with e1 e2 e3
                subst e1 e3
                have m7 := fun y : BelowOf w7 => y.cell (show w7.cell? ⟨pm, 7, none⟩ = some (.int .i64 (m0 : Int)) from (M7.out.cell 7).trans h7)
                have mb := fun y : BelowOf w7 => y.cell (show w7.cell? ⟨lb, 0, none⟩ = some (.slice (some ⟨gw, offw, none⟩) L.length capw) from C7.out.b.cell 0)
                have ml := fun y : BelowOf w7 => y.cell (show w7.cell? ⟨gw, offw + nn, none⟩ = some (.int .i64 (m0 : Int)) from hcw nn _ (by rw [wantV, List.getElem?_map, HM0.out]; rfl))
                clear e2 hcw M7 h7 h2
                refine wp_region_below (by kernel_rfl) (by kernel_rfl) ?_
                repeat (go_big_quiet_step (fail))
                refine wpQuiet_nil ?_
                intro w8 h8
                obtain ⟨⟨w8, hb8⟩, rfl⟩ := h8
                have C8 := Lib.hid (C7.out.below hb8)
                clear hb8 C7 m7 mb ml
                have HS8 : Hid (∀ j u, (wantV L)[j]? = some u → w8.cell? ⟨gw, offw + j, none⟩ = some u) := by
                  obtain ⟨gw', offw', capw', hv2, _, hcw⟩ := C8.out.s.at (by omega)
                  injection hv2 with e1 e2 e3
                  injection e1 with e1
                  injection e1 with e1 e4
                  subst e1 e4
                  exact hcw
                have hcl : L.length ≤ capw := by
                  obtain ⟨_, _, hv, hle, _⟩ := C8.out.s.form
                  injection hv with _ _ e3
                  subst e3
                  exact hle
                have hgb := C8.out.bel.size
                have db : w8.cell? ⟨lb, 0, none⟩ = some (.slice (some ⟨gw, offw, none⟩) L.length capw) := C8.out.b.cell 0
                have db9 : (w8.alloc (.cells #[] 3)).cell? ⟨lb, 0, none⟩ = some (.slice (some ⟨gw, offw, none⟩) L.length capw) := (C8.out.b.alloc _).cell 0
                have hslP := fun W => slice_to (P := Tryz.prog) 30 3 i0 Tryz.underlying30 hi (some ⟨gw, offw, none⟩) L.length capw nn (nn : Int) .i64 rfl (by omega) (.inr ⟨gw, offw, rfl⟩) W
                have hslS := fun W => slice_from (P := Tryz.prog) 30 3 i0 Tryz.underlying30 hi hz1 gw offw L.length capw (nn + 1) (by omega) ((nn : Int) + 1) (by omega) W
                obtain ⟨AS, hAS⟩ : ∃ A : Addr, (if capw = nn + 1 then (⟨gw, offw, none⟩ : Addr) else ⟨gw, offw + (nn + 1), none⟩) = A := ⟨_, rfl⟩
                have hmade : Hid (Sl (w8.alloc (.cells #[] 3)) w.heap.size 1 (.slice (some ⟨w8.heap.size, 0, none⟩) 0 0) 0 []) := Sl.ofOwn (e := 3) (World.ownsRow_made w8 #[] 0 hgb (by unfold maxLen; omega) rfl)
                have hsrcP : Hid (SrcIs (w8.alloc (.cells #[] 3)) 1 (.slice (some ⟨gw, offw, none⟩) nn capw) nn (wantV (L.take nn))) := srcP (fun j u hu => (((Below.refl _ _).alloc (Nat.le_refl _) _).cell (p := ⟨gw, offw + j, none⟩) (World.block_lt_of_cell? w8 _ (HS8.out j u hu))).trans (HS8.out j u hu)) (by omega)
                have HAPP := Lib.hid (fun (w11 : World) (wv' : Value) k s n => C8.out.put (L' := L.eraseIdx nn) (w' := w11) (wv' := wv') k s n)
                have HER : Hid (wantV (L.eraseIdx nn) = wantV (L.take nn) ++ wantV (L.drop (nn + 1))) := by rw [Hid, List.eraseIdx_eq_take_drop_succ]; simp [wantV]
                have HEL : Hid ((L.eraseIdx nn).length = L.length - 1) := List.length_eraseIdx_of_lt hnn
                rw [hAS] at hslS
                have HAS := Lib.hid hAS
                have hone1 := wantV_one (L.take nn)
                have hone2 := wantV_one (L.drop (nn + 1))
                clear hAS
                go_wp2_with (at_builtin; refine wpList_append_sl rfl (.tmp 91) (.tmp 94) 30 rfl 3 i0 (.int .i64 0) 1 8 Tryz.underlying30 hi hz0 hz1 hz2 rfl (by decide) w.heap.size _ _ _ rfl hmade.out _ _ _ rfl hsrcP.out ?_ ?_ ?_ ?_ ?_)
                · exact hone1
                · unfold maxLen; omega
                · omega
                · simp; omega
                intro rv w10 hown10 hgr10 hnew10
                have b10 : Below w8.heap.size w8 w10 := ((Below.refl _ _).alloc (Nat.le_refl _) _).grown hgr10 (by simp) (fun k hk => by simp [Value.ownBlock] at hk; omega)
                have hfr : Hid (∀ j, rv.ownBlock = some j → w8.heap.size ≤ j) := fun j hj => by
                  rcases hnew10 with e | e
                  · rw [e] at hj; simp [Value.ownBlock] at hj; omega
                  · have := e j hj; omega
                have B10 := Lib.hid b10
                have SL10 : Hid (Sl w10 w.heap.size 1 rv nn (wantV (L.take nn))) := by
                  show Sl _ _ _ _ _ _
                  simpa using hown10
                have C10 := Lib.hid (C8.out.below b10)
                have db10 : w10.cell? ⟨lb, 0, none⟩ = some (.slice (some ⟨gw, offw, none⟩) L.length capw) := C10.out.b.cell 0
                have hsrcS : Hid (SrcIs w10 1 (.slice (some AS) (L.length - (nn + 1)) (capw - (nn + 1))) (L.length - (nn + 1)) (wantV (L.drop (nn + 1)))) := by
                  have := srcA (w := w10) (g := gw) (off := offw) (k := nn + 1) (cap := capw) (n := L.length) (L := L) (fun j u hu => (b10.cell (p := ⟨gw, offw + j, none⟩) (World.block_lt_of_cell? w8 _ (HS8.out j u hu))).trans (HS8.out j u hu)) rfl (by omega) hcl
                  rw [HAS.out] at this
                  exact this
                have hgb10 := C10.out.bel.size
                obtain ⟨ar, capr, hrv, _⟩ := SL10.out.form
                subst hrv
                clear hown10 hgr10 hnew10 b10 hmade hsrcP db db9 C8 hslP
                go_wp2_with (at_builtin; refine wpList_append_sl rfl (.tmp 96) (.tmp 100) 30 rfl 3 i0 (.int .i64 0) 1 8 Tryz.underlying30 hi hz0 hz1 hz2 rfl (by decide) w.heap.size _ _ _ rfl SL10.out _ _ _ rfl hsrcS.out ?_ ?_ ?_ ?_ ?_)
                · exact hone2
                · unfold maxLen; omega
                · omega
                · omega
                intro wv' w11 hown hgr hnew
                have b11 : Below w8.heap.size w8 w11 := B10.out.grown hgr B10.out.size (fun k hk => hfr.out k hk)
                obtain ⟨hC9, hc9, hf9⟩ := HAPP.out w11 wv' (Keeps.below _ b11) (by
                  rw [HER.out, HEL.out, show L.length - 1 = nn + (L.length - (nn + 1)) by omega]
                  exact hown) (fun j hj => .inr (by
                  rcases hnew with e | e
                  · exact hfr.out j (e ▸ hj)
                  · exact Nat.le_trans B10.out.size (e j hj)))
                have C9 := Lib.hid hC9
                obtain ⟨aw9, capw9, hwv9, _⟩ := hC9.s.form
                have hwv9' : wv' = .slice aw9 (nn + (L.length - (nn + 1))) capw9 := by rw [HEL.out] at hwv9; rw [hwv9]; congr 1; omega
                clear hwv9
                subst hwv9'
                clear hC9 hown hgr hnew HAPP SL10 hsrcS C10 db10 b11 B10
                go_wp2
                go_meet
                case rel => exact ⟨lv6, _, L.eraseIdx nn, by rw [HEL.out]; omega, fun x hx => HLM.out x (List.mem_of_mem_eraseIdx hx), C9.out⟩
            · have hk2i : (kd == 2) = false := beq_eq_false_iff_ne.2 hk2
              by_cases hk3 : kd = 3
              · subst hk3
                clear hk1i hk1 hk2i hk2
                cases isb with
                | false => as_aux_lemma =>
                  have hno : ¬ (0 ≤ n ∧ n < ((itemsN L).length : Int)) := by rw [itemsN_len]; exact of_decide_eq_false HIS.out.symm
                  have HT := Lib.hid (bagCopy_no w.heap.size pb lv (itemsN L) n hno w5 C5.out.h)
                  clear hno
                  go_wp2_with fail
                  refine HT.out.mono ?_
                  rintro e w6 ⟨rfl, hw6⟩
                  subst hw6
                  clear HT
                  go_wp2
                  go_meet
                  case rel => exact ⟨lv, _, L, hL, HLM.out, C5.out⟩
                | true =>
                  obtain ⟨hn0, hn1⟩ := of_decide_eq_true HIS.out.symm
                  obtain ⟨nn, rfl⟩ := Int.eq_ofNat_of_zero_le hn0
                  have hnn : nn < L.length := by omega
                  clear hn0
                  by_cases hlt : L.length < 256
                  · as_aux_lemma =>
                    obtain ⟨m0, hm0⟩ : ∃ m0, L[nn]? = some m0 := ⟨L[nn], by simp [hnn]⟩
                    have hmm := HLM.out m0 (List.mem_of_getElem? hm0)
                    have HM0 := Lib.hid hm0
                    have HT := Lib.hid (bagCopy_any w.heap.size pb lv (itemsN L) nn (bItem 0 m0) (by simp [itemsN, hm0]) (by rw [itemsN_len]; exact hlt) w5 C5.out.h C5.out.bel.size)
                    unfold CopyPost at HT
                    have hlti2 : (L.length : Int) < 256 := by omega
                    clear hm0
                    go_wp2_with fail
                    refine HT.out.mono ?_
                    rintro e w6 ⟨rfl, lv6, h, hb⟩
                    rw [← itemsN_snoc] at h
                    have C6 := Lib.hid (C5.out.bag h hb)
                    clear h hb HT C5 db
                    obtain ⟨gw, offw, capw2, hv2, hgw, hcw⟩ := C6.out.s.at (by omega)
                    injection hv2 with e1 e2 e3
                    subst e1 e3
                    have db : w6.cell? ⟨lb, 0, none⟩ = some (.slice (some ⟨gw, offw, none⟩) L.length capw) := C6.out.b.cell 0
                    have dl : w6.cell? ⟨gw, offw + nn, none⟩ = some (.int .i64 (m0 : Int)) := hcw nn _ (by rw [wantV, List.getElem?_map, HM0.out]; rfl)
                    have gA : (w6.alloc (.cells #[.int .i64 (m0 : Int)] 3)).cell? ⟨lb, 0, none⟩ = some (.slice (some ⟨gw, offw, none⟩) L.length capw) := (C6.out.b.alloc _).cell 0
                    have hsl : Hid (Sl (w6.alloc (.cells #[.int .i64 (m0 : Int)] 3)).drew w.heap.size 1 (.slice (some ⟨gw, offw, none⟩) L.length capw) L.length (wantV L)) := C6.out.s.kept (S := fun _ => False) ((Keeps.alloc _ _ _).trans (Keeps.drew _ _)) (fun _ _ => id)
                    have hsrc : Hid (SrcIs (w6.alloc (.cells #[.int .i64 (m0 : Int)] 3)).drew 1 (.slice (some ⟨w6.heap.size, 0, none⟩) 1 1) 1 [.int .i64 (m0 : Int)]) := (Cl.new w6 [.int .i64 (m0 : Int)] 3).src 1 1 1 rfl
                    have hone : ∀ u ∈ [Value.int .i64 (m0 : Int)], u.oneCell' = true := by simp [Value.oneCell']
                    have h63 : L.length + 1 ≤ maxLen := by unfold maxLen; omega
                    have hby : (L.length + 1) * 8 ≤ 140737488355328 := by omega
                    have hba : w.heap.size ≤ ((w6.alloc (.cells #[.int .i64 (m0 : Int)] 3)).drew).heap.size := by have h2 := World.size_alloc w6 (.cells #[.int .i64 (m0 : Int)] 3); have h3 := C6.out.bel.size; show w.heap.size ≤ (w6.alloc (.cells #[.int .i64 (m0 : Int)] 3)).heap.size; omega
                    have HPO := Lib.hid (fun (w4 : World) (v' : Value) s g n => C6.out.app (L' := L ++ [m0]) (w' := w4) (wv' := v') (w1 := (w6.alloc (.cells #[.int .i64 (m0 : Int)] 3)).drew) ((Below.refl _ _).alloc (Nat.le_refl _) _).drew s g n)
                    have HSN : Hid (wantV (L ++ [m0]) = wantV L ++ [.int .i64 (m0 : Int)] ∧ (L ++ [m0]).length = L.length + 1) := ⟨wantV_snoc L m0, by simp⟩
                    clear e2 hcw
                    go_upto_region 29 with (fail)
                    refine wp_normal ?_
                    go_region_law (first
                      | (refine step_append_sl _ (by rfl) _ _ _ (by rfl) w.heap.size 3 i0 _ 1 8 Tryz.underlying30 hi hz0 hz1 hz2 rfl (by decide) (.slice (some ⟨gw, offw, none⟩) L.length capw) L.length (wantV L) (by rfl) hsl.out (.slice (some ⟨w6.heap.size, 0, none⟩) 1 1) 1 [.int .i64 (m0 : Int)] (by rfl) hsrc.out hone h63 hby hba Nat.one_pos ?_; intro g4 off4 cap4 w4 hown4 hg4 hnew4; obtain ⟨hpost, hcell4, hfree4⟩ := HPO.out w4 (.slice (some ⟨g4, off4, none⟩) (L.length + 1) cap4) (by rw [HSN.out.1, HSN.out.2]; exact hown4) hg4 (hnew4.imp (fun e => e.symm) (fun e k hk => (Option.some.inj hk) ▸ e)); have HP := Lib.hid hpost; clear hpost hown4 hg4 hnew4))
                    all_goals
                      go_wp2
                      go_meet
                      case rel => exact ⟨lv6, _, L ++ [m0], by rw [HSN.out.2]; omega, fun x hx => by rcases List.mem_append.1 hx with h | h; exact HLM.out x h; simp at h; omega, HP.out⟩
                  · as_aux_lemma =>
                    have HT := Lib.hid (bagCopy_full w.heap.size pb lv (itemsN L) nn (by rw [itemsN_len]; omega) w5 C5.out.h)
                    have hlti2 : ¬ ((L.length : Int) < 256) := by omega
                    go_wp2_with fail
                    refine HT.out.mono ?_
                    rintro e w6 ⟨rfl, hw6⟩
                    subst hw6
                    clear HT
                    go_wp2
                    go_meet
                    case rel => exact ⟨lv, _, L, hL, HLM.out, C5.out⟩
              · have hk3i : (kd == 3) = false := beq_eq_false_iff_ne.2 hk3
                go_wp2
                go_meet
                case rel => exact ⟨lv, _, L, hL, HLM.out, C5.out⟩
        case rest =>
          obtain ⟨lv', wv', L', hL', hLm', hC⟩ := hcut
          have CC := Lib.hid hC
          have HLM' := Lib.hid hLm'
          clear hC hLm' C5 db HLM hL HIS HKD
          obtain ⟨aw9, capw9, hwv9, _⟩ := CC.out.s.form
          subst hwv9
          have mb := fun y : BelowOf wc => y.cell (show wc.cell? ⟨lb, 0, none⟩ = some (.slice aw9 L'.length capw9) from CC.out.b.cell 0)
          have HLN := Lib.hid (fun y : BelowOf wc => (bagLen_any w.heap.size pb lv' (itemsN L') y.1 (CC.out.h.below y.2)).mono (fun e w' (h : _ ∧ _) => (⟨h.1, y, h.2⟩ : _ ∧ ∃ c : BelowOf wc, w' = c.1)))
          rw [itemsN_len] at HLN
          go_upto_region 30 with (fail)
          refine wp_region_below (by kernel_rfl) (by kernel_rfl) ?_
          go_big_quiet_step (fail)
          go_big_quiet_step ((exact HLN.out _))
          repeat (go_big_quiet_step (fail))
          refine wpQuiet_nil ?_
          intro w8 h8
          obtain ⟨⟨w8, hb8⟩, rfl⟩ := h8
          have C8 := Lib.hid (CC.out.below hb8)
          clear hb8 CC mb HLN
          go_wp2
          go_roundw
          case rel => exact ⟨k + 1, lv', _, L', by go_num, by omega, by omega, hL', HLM'.out, C8.out⟩
          case measure => simp [intOf]; omega
    · have hend : k = xs.length ∨ k = 400 := by omega
      go_upto_region 6 with (fail)
      go_cut [30] (fun t wz => t = .bool false ∧ wz = wr)
      case first =>
        by_cases hkl : k < xs.length
        · have hkli : (k : Int) < (xs.length : Int) := by omega
          have hk2 : ¬ ((k : Int) < 400) := by omega
          go_wp2
          go_meet
          case rel => exact ⟨rfl, rfl⟩
        · have hkli : ¬ ((k : Int) < (xs.length : Int)) := by omega
          go_wp2
          go_meet
          case rel => exact ⟨rfl, rfl⟩
      case rest =>
        obtain ⟨rfl, hwc⟩ := hcut
        have hwc' := hwc.symm
        clear hwc hgo hend
        subst hwc'
        have C9 : Hid (LsW w (wr.alloc (.cells #[.pointer (some ⟨pb, 0, none⟩)] 24)) pb rb lb lv wv (itemsN L) L) := CK.out.below ((Below.refl _ _).alloc (Nat.le_refl _) _)
        have X9 : Hid ((wr.alloc (.cells #[.pointer (some ⟨pb, 0, none⟩)] 24)).cell? ⟨wr.heap.size, 0, none⟩ = some (.pointer (some ⟨pb, 0, none⟩)) ∧ wr.heap.size < (wr.alloc (.cells #[.pointer (some ⟨pb, 0, none⟩)] 24)).heap.size) := ⟨(Cl.new wr [.pointer (some ⟨pb, 0, none⟩)] _).cell 0, by simp⟩
        clear CK
        go_wp2_with fail
        refine (bagAll_any pb wr).mono ?_
        rintro e w9 ⟨rfl, hw9⟩
        rw [hw9] at C9 X9
        clear hw9
        generalize wr.heap.size = bx at *
        have hnf := eq_nilFunc
        go_wp2_with fail
        have hL0 := fun x hx => Nat.le_trans (Nat.le_of_lt (HLM.out x hx)) (by decide : 400 ≤ 1073741824)
        refine (wpIn_wide (n := 6)).1 ?_
        refine rangeBox rfl (by omega) (gf := 36) (lb := #[.pointer (some ⟨bx, 0, none⟩)]) rfl trivial (enters_of Tryz.func36 (by kernel_rfl) rfl)
          (bagAll_stops (6 - 1) (by omega) bx w.heap.size w9.heap.size w.heap.size pb lv L w w9 HW.out rfl C9.out.bel X9.out.2 (Nat.le_refl _) X9.out.1 C9.out.h hL0) KpA.trans (KpA.book C9.out.bel.size) (Below.refl _ _) (fun _ => rfl)
          (fun _ W => Below w9.heap.size w9 W) (fun c pre _ => c = .ret ∧ ∃ x ∈ pre, L[x.1]? ≠ some x.2) (ownFrom_below (Nat.le_refl _) (Nat.le_refl _)) (fun c _ _ _ _ hs _ _ => hs) (Below.refl _ _)
          (fun x b => [(137, .int .i64 x.1), (138, msgV (beatM 1 0 x.2) zeroV), (14, .int .i64 x.1), (15, .pointer (some ⟨b, 0, none⟩))])
          (fun x b W => ∃ cs : List Value, cs[7]? = some (.int .i64 x.2) ∧ Cl W b cs 44) (fun x b s X Y row hs hg hr => by
            obtain ⟨cs, h7, hcl⟩ := hs
            exact ⟨cs, h7, cl_own _ () X Y row hcl hg hr⟩)
          ?assign ?body ?done ?stop
        case assign => as_aux_lemma =>
          rintro l pre x W K hI hK
          obtain ⟨cs, HCS, h7, _, HLN, HIA, HSZ, HON⟩ := beat_cells 0 x.2
          have CM : Hid ((W.alloc (.cells (.int .i64 0 :: .int .i64 0 :: .int .i64 0 :: .int .i64 0 :: .int .i64 0 :: .int .i64 0 :: .int .i64 0 :: .int .i64 0 :: .int .i64 0 :: .slice none 0 0 :: .int .i64 0 :: .slice none 0 0 :: .int .i64 0 :: .int .i64 0 :: .int .i64 0 :: .int .i64 0 :: .int .i64 0 :: .slice none 0 0 :: .slice none 0 0 :: .int .i64 0 :: .int .i64 0 :: .int .i64 0 :: .int .i64 0 :: .int .i64 0 :: .int .i64 0 :: .int .i64 0 :: .int .i64 0 :: .string ⟨#[]⟩ :: .string ⟨#[]⟩ :: .slice none 0 0 :: .int .i64 0 :: .int .i64 0 :: .int .i64 0 :: .int .i64 0 :: .int .i64 0 :: .int .i64 0 :: .slice none 0 0 :: .slice none 0 0 :: []).toArray 44)).heap[W.heap.size]? = some (.cells (.int .i64 0 :: .int .i64 0 :: .int .i64 0 :: .int .i64 0 :: .int .i64 0 :: .int .i64 0 :: .int .i64 0 :: .int .i64 0 :: .int .i64 0 :: .slice none 0 0 :: .int .i64 0 :: .slice none 0 0 :: .int .i64 0 :: .int .i64 0 :: .int .i64 0 :: .int .i64 0 :: .int .i64 0 :: .slice none 0 0 :: .slice none 0 0 :: .int .i64 0 :: .int .i64 0 :: .int .i64 0 :: .int .i64 0 :: .int .i64 0 :: .int .i64 0 :: .int .i64 0 :: .int .i64 0 :: .string ⟨#[]⟩ :: .string ⟨#[]⟩ :: .slice none 0 0 :: .int .i64 0 :: .int .i64 0 :: .int .i64 0 :: .int .i64 0 :: .int .i64 0 :: .int .i64 0 :: .slice none 0 0 :: .slice none 0 0 :: []).toArray 44 (0, 0))) := Cl.new W (.int .i64 0 :: .int .i64 0 :: .int .i64 0 :: .int .i64 0 :: .int .i64 0 :: .int .i64 0 :: .int .i64 0 :: .int .i64 0 :: .int .i64 0 :: .slice none 0 0 :: .int .i64 0 :: .slice none 0 0 :: .int .i64 0 :: .int .i64 0 :: .int .i64 0 :: .int .i64 0 :: .int .i64 0 :: .slice none 0 0 :: .slice none 0 0 :: .int .i64 0 :: .int .i64 0 :: .int .i64 0 :: .int .i64 0 :: .int .i64 0 :: .int .i64 0 :: .int .i64 0 :: .int .i64 0 :: .string ⟨#[]⟩ :: .string ⟨#[]⟩ :: .slice none 0 0 :: .int .i64 0 :: .int .i64 0 :: .int .i64 0 :: .int .i64 0 :: .int .i64 0 :: .int .i64 0 :: .slice none 0 0 :: .slice none 0 0 :: []) _
          have M6 : Hid (Cl ((W.alloc (.cells (.int .i64 0 :: .int .i64 0 :: .int .i64 0 :: .int .i64 0 :: .int .i64 0 :: .int .i64 0 :: .int .i64 0 :: .int .i64 0 :: .int .i64 0 :: .slice none 0 0 :: .int .i64 0 :: .slice none 0 0 :: .int .i64 0 :: .int .i64 0 :: .int .i64 0 :: .int .i64 0 :: .int .i64 0 :: .slice none 0 0 :: .slice none 0 0 :: .int .i64 0 :: .int .i64 0 :: .int .i64 0 :: .int .i64 0 :: .int .i64 0 :: .int .i64 0 :: .int .i64 0 :: .int .i64 0 :: .string ⟨#[]⟩ :: .string ⟨#[]⟩ :: .slice none 0 0 :: .int .i64 0 :: .int .i64 0 :: .int .i64 0 :: .int .i64 0 :: .int .i64 0 :: .int .i64 0 :: .slice none 0 0 :: .slice none 0 0 :: []).toArray 44)).setRow W.heap.size cs.toArray) W.heap.size cs 44) := by
            have := Cl.row (Cl.new W (.int .i64 0 :: .int .i64 0 :: .int .i64 0 :: .int .i64 0 :: .int .i64 0 :: .int .i64 0 :: .int .i64 0 :: .int .i64 0 :: .int .i64 0 :: .slice none 0 0 :: .int .i64 0 :: .slice none 0 0 :: .int .i64 0 :: .int .i64 0 :: .int .i64 0 :: .int .i64 0 :: .int .i64 0 :: .slice none 0 0 :: .slice none 0 0 :: .int .i64 0 :: .int .i64 0 :: .int .i64 0 :: .int .i64 0 :: .int .i64 0 :: .int .i64 0 :: .int .i64 0 :: .int .i64 0 :: .string ⟨#[]⟩ :: .string ⟨#[]⟩ :: .slice none 0 0 :: .int .i64 0 :: .int .i64 0 :: .int .i64 0 :: .int .i64 0 :: .int .i64 0 :: .int .i64 0 :: .slice none 0 0 :: .slice none 0 0 :: []) 44) cs.toArray
            rwa [List.toList_toArray] at this
          have B6 : Hid (Below W.heap.size W ((W.alloc (.cells (.int .i64 0 :: .int .i64 0 :: .int .i64 0 :: .int .i64 0 :: .int .i64 0 :: .int .i64 0 :: .int .i64 0 :: .int .i64 0 :: .int .i64 0 :: .slice none 0 0 :: .int .i64 0 :: .slice none 0 0 :: .int .i64 0 :: .int .i64 0 :: .int .i64 0 :: .int .i64 0 :: .int .i64 0 :: .slice none 0 0 :: .slice none 0 0 :: .int .i64 0 :: .int .i64 0 :: .int .i64 0 :: .int .i64 0 :: .int .i64 0 :: .int .i64 0 :: .int .i64 0 :: .int .i64 0 :: .string ⟨#[]⟩ :: .string ⟨#[]⟩ :: .slice none 0 0 :: .int .i64 0 :: .int .i64 0 :: .int .i64 0 :: .int .i64 0 :: .int .i64 0 :: .int .i64 0 :: .slice none 0 0 :: .slice none 0 0 :: []).toArray 44)).setRow W.heap.size cs.toArray)) := ((Below.refl _ _).alloc (Nat.le_refl _) _).trans ((Keeps.row (S := fun j => j = W.heap.size) _ W.heap.size _ rfl).toBelow (by simp) (fun k hk e => by omega))
          have hKK := Lib.hid (hK W.heap.size ((W.alloc (.cells (.int .i64 0 :: .int .i64 0 :: .int .i64 0 :: .int .i64 0 :: .int .i64 0 :: .int .i64 0 :: .int .i64 0 :: .int .i64 0 :: .int .i64 0 :: .slice none 0 0 :: .int .i64 0 :: .slice none 0 0 :: .int .i64 0 :: .int .i64 0 :: .int .i64 0 :: .int .i64 0 :: .int .i64 0 :: .slice none 0 0 :: .slice none 0 0 :: .int .i64 0 :: .int .i64 0 :: .int .i64 0 :: .int .i64 0 :: .int .i64 0 :: .int .i64 0 :: .int .i64 0 :: .int .i64 0 :: .string ⟨#[]⟩ :: .string ⟨#[]⟩ :: .slice none 0 0 :: .int .i64 0 :: .int .i64 0 :: .int .i64 0 :: .int .i64 0 :: .int .i64 0 :: .int .i64 0 :: .slice none 0 0 :: .slice none 0 0 :: []).toArray 44)).setRow W.heap.size cs.toArray) ⟨B6.out.size, fun k o _ hk _ => (B6.out.block k (Array.getElem?_eq_some_iff.1 hk).1).trans hk⟩
            ⟨B6.out.mono (Nat.le_trans C9.out.bel.size hI.size), B6.out.size, fun g o _ hg _ => (B6.out.block g (Array.getElem?_eq_some_iff.1 hg).1).trans hg⟩ (bt hI B6.out) ⟨cs, h7, M6.out⟩)
          clear hK
          unfold encsB
          dsimp only [updA] at hKK ⊢
          rw [HCS.out] at hKK ⊢
          generalize x.1 = x1 at *
          gi_wp2_with (refine wpListIn_store_row (by rfl) _ _ _ (by rfl) W.heap.size cs.toArray (by rfl) (by rfl) 44 _ CM.out HIA.out HSZ.out HON.out ?_)
          exact hKK.out
        case body => as_aux_lemma =>
          rintro l pre x b W hI ⟨cs, h7, hcl⟩ hlen
          have CW := Lib.hid (C9.out.below hI)
          have HI := Lib.hid hI
          obtain ⟨aw, capw, hwv, _⟩ := C9.out.s.form
          subst hwv
          have mb := fun y : BelowOf W => y.cell (show W.cell? ⟨lb, 0, none⟩ = some (.slice aw L.length capw) from CW.out.b.cell 0)
          have m7 := fun y : BelowOf W => y.cell (show W.cell? ⟨b, 7, none⟩ = some (.int .i64 (x.2 : Int)) from (Cl.cell hcl 7).trans h7)
          have HIX := Lib.hid (fun (h : L[x.1]? ≠ some x.2) => (⟨rfl, x, List.mem_append_right _ (List.mem_singleton.2 rfl), h⟩ : Code.ret = Code.ret ∧ ∃ y ∈ pre ++ [x], L[y.1]? ≠ some y.2))
          generalize msgV (beatM 1 0 x.2) zeroV = mv
          simp only [updA, List.foldl_cons, List.foldl_nil, List.setIfInBounds_toArray, List.set_cons_succ, List.set_cons_zero]
          clear hcl hI C9 X9 hnf hL0
          by_cases hx1 : x.1 < L.length
          · obtain ⟨y, hy⟩ : ∃ y, L[x.1]? = some y := ⟨L[x.1], by simp [hx1]⟩
            obtain ⟨gw, offw, capw2, hv2, hgw, hcw⟩ := CW.out.s.at (by omega)
            injection hv2 with e1 e2 e3
            subst e1 e3
            have ml := fun z : BelowOf W => z.cell (show W.cell? ⟨gw, offw + x.1, none⟩ = some (.int .i64 (y : Int)) from hcw x.1 _ (by rw [wantV, List.getElem?_map, hy]; rfl))
            have hx1i : (x.1 : Int) < (L.length : Int) := by omega
            have hx1g : ¬ ((L.length : Int) ≤ (x.1 : Int)) := by omega
            have hx1n : ¬ (L.length ≤ x.1) := by omega
            have hx1d : decide (L.length ≤ x.1) = false := decide_eq_false (by omega)
            rw [hy] at HIX
            generalize x.1 = x1 at *
            generalize x.2 = x2 at *
            by_cases hxy : y = x2
            · subst hxy
              clear HIX hy hcw e2
              gi_wp2_with fail
              refine wpIn_round_below (by kernel_rfl) (by kernel_rfl) (by rfl) ?_
              repeat (go_big_quiet_step (fail))
              refine wpQuiet_nil ?_
              intro w8 h8
              obtain ⟨⟨w8, hb8⟩, rfl⟩ := h8
              have HB8 := Lib.hid hb8
              clear hb8 mb m7 ml
              gi_wp2
              exact ⟨keepsFrom_below HB8.out, KpA.below HB8.out CW.out.bel.size, bt HI.out HB8.out⟩
            · have hxyi : ((x2 : Int) == (y : Int)) = false := beq_eq_false_iff_ne.2 (by omega)
              have HIX2 := Lib.hid (HIX.out (fun h => hxy (Option.some.inj h)))
              clear HIX hy hcw e2 hxy
              gi_wp2_with fail
              refine wpIn_round_below (by kernel_rfl) (by kernel_rfl) (by rfl) ?_
              repeat (go_big_quiet_step (fail))
              refine wpQuiet_nil ?_
              intro w8 h8
              obtain ⟨⟨w8, hb8⟩, rfl⟩ := h8
              have HB8 := Lib.hid hb8
              have C8 := Lib.hid (CW.out.below hb8)
              have dr : w8.cell? ⟨rb, 0, none⟩ = some (.bool false) := C8.out.r.cell 0
              have fr : w8.frozen? ⟨rb, 0, none⟩ = false := C8.out.r.free 0
              clear hb8 mb m7 ml
              gi_wp2
              exact ⟨(keepsFrom_below HB8.out).trans ((KeepsOthers.setCell w8 ⟨rb, 0, none⟩ (.bool false)).from _), rfl, HIX2.out.2⟩
          · have hx1i : ¬ ((x.1 : Int) < (L.length : Int)) := by omega
            have hx1g : (L.length : Int) ≤ (x.1 : Int) := by omega
            have HIX2 := Lib.hid (HIX.out (by rw [List.getElem?_eq_none (by omega)]; simp))
            generalize x.1 = x1 at *
            generalize x.2 = x2 at *
            clear HIX
            gi_wp2_with fail
            refine wpIn_round_below (by kernel_rfl) (by kernel_rfl) (by rfl) ?_
            repeat (go_big_quiet_step (fail))
            refine wpQuiet_nil ?_
            intro w8 h8
            obtain ⟨⟨w8, hb8⟩, rfl⟩ := h8
            have HB8 := Lib.hid hb8
            have C8 := Lib.hid (CW.out.below hb8)
            have dr : w8.cell? ⟨rb, 0, none⟩ = some (.bool false) := C8.out.r.cell 0
            have fr : w8.frozen? ⟨rb, 0, none⟩ = false := C8.out.r.free 0
            clear hb8 mb m7
            gi_wp2
            exact ⟨(keepsFrom_below HB8.out).trans ((KeepsOthers.setCell w8 ⟨rb, 0, none⟩ (.bool false)).from _), rfl, HIX2.out.2⟩
        case done => as_aux_lemma =>
          rintro D xs W hD hxs hI hK
          have CW := Lib.hid (C9.out.below hI)
          have HK := Lib.hid hK
          have HNS : Hid (w.heap.size ≤ w9.heap.size) := C9.out.bel.size
          clear hI hK C9 X9 hnf hL0 hxs
          dsimp only
          go_wp2_with fail
          refine (bagTake_nil W).mono ?_
          rw [← HZC.out]
          rintro e w10 ⟨rfl, hb10⟩
          have CM : Hid ((w10.alloc (.cells (.int .i64 0 :: .int .i64 0 :: .int .i64 0 :: .int .i64 0 :: .int .i64 0 :: .int .i64 0 :: .int .i64 0 :: .int .i64 0 :: .int .i64 0 :: .slice none 0 0 :: .int .i64 0 :: .slice none 0 0 :: .int .i64 0 :: .int .i64 0 :: .int .i64 0 :: .int .i64 0 :: .int .i64 0 :: .slice none 0 0 :: .slice none 0 0 :: .int .i64 0 :: .int .i64 0 :: .int .i64 0 :: .int .i64 0 :: .int .i64 0 :: .int .i64 0 :: .int .i64 0 :: .int .i64 0 :: .string ⟨#[]⟩ :: .string ⟨#[]⟩ :: .slice none 0 0 :: .int .i64 0 :: .int .i64 0 :: .int .i64 0 :: .int .i64 0 :: .int .i64 0 :: .int .i64 0 :: .slice none 0 0 :: .slice none 0 0 :: []).toArray 44)).heap[w10.heap.size]? = some (.cells (.int .i64 0 :: .int .i64 0 :: .int .i64 0 :: .int .i64 0 :: .int .i64 0 :: .int .i64 0 :: .int .i64 0 :: .int .i64 0 :: .int .i64 0 :: .slice none 0 0 :: .int .i64 0 :: .slice none 0 0 :: .int .i64 0 :: .int .i64 0 :: .int .i64 0 :: .int .i64 0 :: .int .i64 0 :: .slice none 0 0 :: .slice none 0 0 :: .int .i64 0 :: .int .i64 0 :: .int .i64 0 :: .int .i64 0 :: .int .i64 0 :: .int .i64 0 :: .int .i64 0 :: .int .i64 0 :: .string ⟨#[]⟩ :: .string ⟨#[]⟩ :: .slice none 0 0 :: .int .i64 0 :: .int .i64 0 :: .int .i64 0 :: .int .i64 0 :: .int .i64 0 :: .int .i64 0 :: .slice none 0 0 :: .slice none 0 0 :: []).toArray 44 (0, 0))) := Cl.new w10 (.int .i64 0 :: .int .i64 0 :: .int .i64 0 :: .int .i64 0 :: .int .i64 0 :: .int .i64 0 :: .int .i64 0 :: .int .i64 0 :: .int .i64 0 :: .slice none 0 0 :: .int .i64 0 :: .slice none 0 0 :: .int .i64 0 :: .int .i64 0 :: .int .i64 0 :: .int .i64 0 :: .int .i64 0 :: .slice none 0 0 :: .slice none 0 0 :: .int .i64 0 :: .int .i64 0 :: .int .i64 0 :: .int .i64 0 :: .int .i64 0 :: .int .i64 0 :: .int .i64 0 :: .int .i64 0 :: .string ⟨#[]⟩ :: .string ⟨#[]⟩ :: .slice none 0 0 :: .int .i64 0 :: .int .i64 0 :: .int .i64 0 :: .int .i64 0 :: .int .i64 0 :: .int .i64 0 :: .slice none 0 0 :: .slice none 0 0 :: []) _
          have B11 : Hid (Below w10.heap.size w10 ((w10.alloc (.cells (.int .i64 0 :: .int .i64 0 :: .int .i64 0 :: .int .i64 0 :: .int .i64 0 :: .int .i64 0 :: .int .i64 0 :: .int .i64 0 :: .int .i64 0 :: .slice none 0 0 :: .int .i64 0 :: .slice none 0 0 :: .int .i64 0 :: .int .i64 0 :: .int .i64 0 :: .int .i64 0 :: .int .i64 0 :: .slice none 0 0 :: .slice none 0 0 :: .int .i64 0 :: .int .i64 0 :: .int .i64 0 :: .int .i64 0 :: .int .i64 0 :: .int .i64 0 :: .int .i64 0 :: .int .i64 0 :: .string ⟨#[]⟩ :: .string ⟨#[]⟩ :: .slice none 0 0 :: .int .i64 0 :: .int .i64 0 :: .int .i64 0 :: .int .i64 0 :: .int .i64 0 :: .int .i64 0 :: .slice none 0 0 :: .slice none 0 0 :: []).toArray 44)).setRow w10.heap.size zc.toArray)) := ((Below.refl _ _).alloc (Nat.le_refl _) _).trans ((Keeps.row (S := fun j => j = w10.heap.size) _ w10.heap.size _ rfl).toBelow (by simp) (fun k hk e => by omega))
          have B10 : Hid (Below W.heap.size W w10) := hb10
          clear hb10
          go_upto_region 42 with (refine wpList_store_row (by rfl) _ _ _ (by rfl) w10.heap.size zc.toArray (by rfl) (by rfl) 44 _ CM.out HIAZ.out HSZZ.out HONZ.out ?_)
          generalize (w10.alloc (.cells (.int .i64 0 :: .int .i64 0 :: .int .i64 0 :: .int .i64 0 :: .int .i64 0 :: .int .i64 0 :: .int .i64 0 :: .int .i64 0 :: .int .i64 0 :: .slice none 0 0 :: .int .i64 0 :: .slice none 0 0 :: .int .i64 0 :: .int .i64 0 :: .int .i64 0 :: .int .i64 0 :: .int .i64 0 :: .slice none 0 0 :: .slice none 0 0 :: .int .i64 0 :: .int .i64 0 :: .int .i64 0 :: .int .i64 0 :: .int .i64 0 :: .int .i64 0 :: .int .i64 0 :: .int .i64 0 :: .string ⟨#[]⟩ :: .string ⟨#[]⟩ :: .slice none 0 0 :: .int .i64 0 :: .int .i64 0 :: .int .i64 0 :: .int .i64 0 :: .int .i64 0 :: .int .i64 0 :: .slice none 0 0 :: .slice none 0 0 :: []).toArray 44)).setRow w10.heap.size zc.toArray = w11 at *
          have B12 : Hid (Below W.heap.size W w11) := bt B10.out B11.out
          clear CM B10 B11
          generalize w10.heap.size = pn at *
          obtain ⟨cs1, HM, h7, h2, HLN, HIA, HSZ, HON⟩ := beat_cells 0 1
          go_wp2_with fail
          refine (beat_any 1 w11).mono ?_
          rw [HM.out]
          rintro e w12 ⟨rfl, hb⟩
          have B13 := Lib.hid (bt B12.out hb)
          clear hb B12
          go_wp2_with fail
          refine (bagPut_nil cs1 w12).mono ?_
          rintro e w13 ⟨rfl, hb⟩
          have B14 := Lib.hid (bt B13.out hb)
          clear hb B13
          go_wp2_with fail
          refine (bagCopy_nil w13).mono ?_
          rintro e w14 ⟨rfl, hw14⟩
          subst hw14
          go_wp2_with fail
          refine (bagLen_nil w14).mono ?_
          rintro e w15 ⟨rfl, hw15⟩
          subst hw15
          go_wp2_with fail
          refine (bagClear_nil w15).mono ?_
          rintro e w16 ⟨rfl, hb⟩
          have B17 := Lib.hid (bt B14.out hb)
          have C17 := Lib.hid (CW.out.below B17.out)
          clear hb B14
          have dr : w16.cell? ⟨rb, 0, none⟩ = some (.bool false) := C17.out.r.cell 0
          have fr : w16.frozen? ⟨rb, 0, none⟩ = false := C17.out.r.free 0
          go_wp2
          have hK17 : w16.heap[D]? = some (.deferred (some [])) := (B17.out.block D (Array.getElem?_eq_some_iff.1 HK.out).1).trans HK.out
          have hK' := (KeepsOthers.setCell w16 ⟨rb, 0, none⟩ (.bool true)).same D _ hK17 rfl
          have hc5 := cell_kept (World.cell?_setCell_same' w16 ⟨rb, 0, none⟩ (.bool true) (by rw [dr]; rfl)) (grownBy_putObj' _ D (.deferred none)) (fun r e => by cases e; exact ⟨_, hK', rfl⟩)
          refine ⟨by simp, .inl ⟨_, _, rfl, run_takeDeferred hK', ?_⟩⟩
          refine ⟨.bool true, ?_, rfl, ?_⟩
          · simp [results, Tryz.f4, go_sem, hc5]
          · have hrl := C17.out.lo.1
            have hbl := C17.out.bel
            exact (hbl.setCell (p := ⟨rb, 0, none⟩) hrl _).trans (belowK_b (w := w) (Nat.le_refl _) _ D _ _ (Nat.le_trans HNS.out hD) hK' rfl rfl)
        case stop =>
          rintro D c pre W hD hpre ⟨_, x, hx, hno⟩ hK
          exact absurd (goL_mem (Nat.le_refl _) (hpre.subset hx)) hno

end Go.Proofs.YtbljbdjmgogknaaGreatDoor
