/-
  Yr4: texts of one proof, one behind the other.
  Conditions: none of its own.
-/
import Derived.Test.YtjfpbeccpcbpcaaGreatDoorZay
import Derived.Test.YtjfpbeccpcbpcaaGreatDoorZbh
import Derived.Test.YtjfpbeccpcbpcaaGreatDoorZbi
set_option linter.unusedVariables false
set_option linter.unusedSimpArgs false
set_option maxHeartbeats 25600000
set_option maxRecDepth 20000
namespace Go.Proofs.YtjfpbeccpcbpcaaGreatDoor
open Go.RowKit
structure TS (w : World) (p : Nat) (l : List UInt8) (q : Bd.St) (v : Value) (acc : List (Wi.Seen × Value)) (W : World) : Prop where
 r : RU W p l q
 b : Below w.heap.size w W
 o : W.ownsRow (p + 1) 57 2 v acc.length (tabCells acc)
 s : ∀ y ∈ acc, W.ownsRow (p + 1) 113 3 y.2 y.1.2.length (slotCells y.1.2)
 hp : p = w.heap.size
theorem TS.keep {S : Nat → Prop} {w W W' : World} {p : Nat} {l : List UInt8} {q q' : Bd.St} {v : Value} {acc : List (Wi.Seen × Value)} (h : TS w p l q v acc W) (k : Keeps S W W') (hr : RU W' p l q') (hb : ∀ j, j < p → ¬ S j)
  (hv : ∀ j, v.ownBlock = some j → ¬ S j) (hs : ∀ y ∈ acc, ∀ j, y.2.ownBlock = some j → ¬ S j) : TS w p l q' v acc W' :=
 ⟨hr, h.b.trans (k.toBelow h.b.size (fun j hj => hb j (by have := h.hp; omega))), ownsRow_keepsS h.o k hv, fun y hy => ownsRow_keepsS (h.s y hy) k (hs y hy), h.hp⟩
theorem TS.call {w W W' : World} {p : Nat} {l : List UInt8} {q q' : Bd.St} {v : Value} {acc : List (Wi.Seen × Value)} (h : TS w p l q v acc W) (k : RUs W p l q' W') : TS w p l q' v acc W' :=
 h.keep k.2 k.1 (fun j hj e => by omega) (fun j hj e => by have := (h.o.lt j hj).1; omega) (fun y hy j hj e => by have := ((h.s y hy).lt j hj).1; omega)
theorem TS.below {w W W' : World} {p : Nat} {l : List UInt8} {q : Bd.St} {v : Value} {acc : List (Wi.Seen × Value)} (h : TS w p l q v acc W) (k : Below W.heap.size W W') : TS w p l q v acc W' :=
 h.keep (Keeps.below (fun _ => False) k) (h.r.below k) (fun _ _ => id) (fun _ _ => id) (fun _ _ _ _ => id)
structure TX (w : World) (p : Nat) (l : List UInt8) (bx : Nat) (q : Bd.St) (v : Value) (acc : List (Wi.Seen × Value)) (prod : Int) (a : Option Addr) (c : Nat) (sl : List Wi.Slot) (W : World) : Prop where
 t : TS w p l q v acc W
 cl : Cl W bx [.int .i64 prod, .slice a sl.length c] 57
 o : W.ownsRow (bx + 1) 113 3 (.slice a sl.length c) sl.length (slotCells sl)
 hx : p < bx
 hv : ∀ j, v.ownBlock = some j → j < bx
 hs : ∀ y ∈ acc, ∀ j, y.2.ownBlock = some j → j < bx
theorem TX.call {w W W' : World} {p : Nat} {l : List UInt8} {bx : Nat} {q q' : Bd.St} {v : Value} {acc : List (Wi.Seen × Value)} {prod : Int} {a : Option Addr} {c : Nat} {sl : List Wi.Slot} (h : TX w p l bx q v acc prod a c sl W) (k : RUs W p l q' W') : TX w p l bx q' v acc prod a c sl W' :=
 ⟨h.t.call k, h.cl.keep k.2 (by have := h.hx; omega), ownsRow_keeps h.o k.2 (by have := h.hx; omega), h.hx, h.hv, h.hs⟩
theorem TX.below {w W W' : World} {p : Nat} {l : List UInt8} {bx : Nat} {q : Bd.St} {v : Value} {acc : List (Wi.Seen × Value)} {prod : Int} {a : Option Addr} {c : Nat} {sl : List Wi.Slot} (h : TX w p l bx q v acc prod a c sl W) (k : Below W.heap.size W W') : TX w p l bx q v acc prod a c sl W' :=
 ⟨h.t.below k, h.cl.keep (Keeps.below (fun _ => False) k) id, ownsRow_below h.o k, h.hx, h.hv, h.hs⟩
theorem TX.prod {w W : World} {p : Nat} {l : List UInt8} {bx : Nat} {q : Bd.St} {v : Value} {acc : List (Wi.Seen × Value)} {prod : Int} {a : Option Addr} {c : Nat} {sl : List Wi.Slot} (h : TX w p l bx q v acc prod a c sl W) (n : Int) : TX w p l bx q v acc n a c sl (W.setCell ⟨bx, 0, none⟩ (.int .i64 n)) :=
 have k : Keeps (fun j => j = bx) W (W.setCell ⟨bx, 0, none⟩ (.int .i64 n)) := Keeps.setCell _ _ _ _ rfl
 ⟨h.t.keep k (h.t.r.keep k (by have := h.hx; omega)) (fun j hj e => by have := h.hx; omega) (fun j hj e => by have := h.hv j hj; omega) (fun y hy j hj e => by have := h.hs y hy j hj; omega), h.cl.set 0 _, ownsRow_keeps h.o k (by omega), h.hx, h.hv, h.hs⟩
theorem TX.app {w W W' : World} {p : Nat} {l : List UInt8} {bx : Nat} {q : Bd.St} {v : Value} {acc : List (Wi.Seen × Value)} {prod : Int} {a a' : Option Addr} {c c' : Nat} {sl sl' : List Wi.Slot} (h : TX w p l bx q v acc prod a c sl W) (k : Keeps (fun j => bx + 1 ≤ j) W W')
  (ho : W'.ownsRow (bx + 1) 113 3 (.slice a' sl'.length c') sl'.length (slotCells sl')) : TX w p l bx q v acc prod a' c' sl' (W'.setCell ⟨bx, 1, none⟩ (.slice a' sl'.length c')) :=
 have k1 : Keeps (fun j => j = bx) W' (W'.setCell ⟨bx, 1, none⟩ (.slice a' sl'.length c')) := Keeps.setCell _ _ _ _ rfl
 have kk : Keeps (fun j => bx ≤ j) W (W'.setCell ⟨bx, 1, none⟩ (.slice a' sl'.length c')) := (k.mono fun j _ e => by omega).trans (k1.mono fun j _ e => by omega)
 ⟨h.t.keep kk (h.t.r.keep kk (by have := h.hx; omega)) (fun j hj e => by have := h.hx; omega) (fun j hj e => by have := h.hv j hj; omega) (fun y hy j hj e => by have := h.hs y hy j hj; omega),
  (h.cl.keep k (by omega)).set 1 _, ownsRow_keeps ho k1 (by omega), h.hx, h.hv, h.hs⟩
structure TY (w : World) (p : Nat) (l : List UInt8) (bx yb : Nat) (q : Bd.St) (v : Value) (acc : List (Wi.Seen × Value)) (prod : Int) (a : Option Addr) (c : Nat) (sl : List Wi.Slot) (ys : List Value) (W : World) : Prop where
 x : TX w p l bx q v acc prod a c sl W
 y : Cl W yb ys 113
 hy : bx < yb
 hsv : ∀ j, (Value.slice a sl.length c).ownBlock = some j → j < yb
theorem TY.call {w W W' : World} {p : Nat} {l : List UInt8} {bx yb : Nat} {q q' : Bd.St} {v : Value} {acc : List (Wi.Seen × Value)} {prod : Int} {a : Option Addr} {c : Nat} {sl : List Wi.Slot} {ys : List Value} (h : TY w p l bx yb q v acc prod a c sl ys W) (k : RUs W p l q' W') : TY w p l bx yb q' v acc prod a c sl ys W' :=
 ⟨h.x.call k, h.y.keep k.2 (by have := h.x.hx; have := h.hy; omega), h.hy, h.hsv⟩
theorem TY.set {w W : World} {p : Nat} {l : List UInt8} {bx yb : Nat} {q : Bd.St} {v : Value} {acc : List (Wi.Seen × Value)} {prod : Int} {a : Option Addr} {c : Nat} {sl : List Wi.Slot} {ys : List Value} (h : TY w p l bx yb q v acc prod a c sl ys W) (i : Nat) (u : Value) : TY w p l bx yb q v acc prod a c sl (ys.set i u) (W.setCell ⟨yb, i, none⟩ u) :=
 have k : Keeps (fun j => j = yb) W (W.setCell ⟨yb, i, none⟩ u) := Keeps.setCell _ _ _ _ rfl
 have hx := h.x.hx
 have hy := h.hy
 ⟨⟨h.x.t.keep k (h.x.t.r.keep k (by omega)) (fun j hj e => by omega) (fun j hj e => by have := h.x.hv j hj; omega) (fun y hy' j hj e => by have := h.x.hs y hy' j hj; omega), h.x.cl.keep k (by omega), ownsRow_keepsS h.x.o k (fun j hj e => by have := h.hsv j hj; omega), h.x.hx, h.x.hv, h.x.hs⟩, h.y.set i u, h.hy, h.hsv⟩
theorem tSeen_ok (q : Bd.St) : Bd.inR (Wi.tSeen q).1.1 ∧ (Wi.tSeen q).1.2.length ≤ maxLen ∧ ∀ y ∈ (Wi.tSeen q).1.2, Bd.inR y.1 ∧ Bd.inR y.2.1 ∧ Bd.inR y.2.2 := by
 refine ⟨sInt_inR _, ?_, Wi.sMany_all (P := fun y : Wi.Slot => Bd.inR y.1 ∧ Bd.inR y.2.1 ∧ Bd.inR y.2.2) (fun q => ⟨sInt_inR _, sInt_inR _, sInt_inR _⟩) _ _⟩
 have h1 := Wi.sMany_count (f := Wi.sSlot) 6 (Bd.sInt (Bd.sSign 108 q)).2
 show (Wi.sMany Wi.sSlot 6 (Bd.sInt (Bd.sSign 108 q)).2).1.length ≤ maxLen
 unfold maxLen
 omega
theorem tTable_ok (q : Bd.St) : TabOk (Wi.sMany Wi.tSeen 65 q).1 := by
 have h1 := Wi.sMany_count (f := Wi.tSeen) 65 q
 refine ⟨by unfold maxLen; omega, Wi.sMany_all (P := fun x : Wi.Seen => Bd.inR x.1 ∧ x.2.length ≤ maxLen ∧ ∀ y ∈ x.2, Bd.inR y.1 ∧ Bd.inR y.2.1 ∧ Bd.inR y.2.2) tSeen_ok _ _⟩
theorem refldec_any (s : List UInt8) (hs : s.length < 4294967281) (w : World) :
  Calls Tryz.prog 74 #[.string ⟨s.toArray⟩] w (LedR w (Wi.tTable s)) := by
 have hl : s.length ≤ 4294967296 := by omega
 obtain ⟨i0, hi, hz0, hz1, hz2⟩ := info_parts seenInfo
 obtain ⟨i1, hi1, hy0, hy1, hy2⟩ := info_parts slotInfo
 have HD : Hid (Wi.tTable s = if (decide (Bd.sDone (Bd.sSign 101 (Wi.sMany Wi.tSeen 65 (Bd.sSign 108 (s, false))).2) = 0) && Wi.tableB (Wi.sMany Wi.tSeen 65 (Bd.sSign 108 (s, false))).1) then some (Wi.sMany Wi.tSeen 65 (Bd.sSign 108 (s, false))).1 else none) := rfl
 have HTO := hq' (tTable_ok (Bd.sSign 108 (s, false)))
 have s1 := World.size_alloc w (.cells #[.string ⟨s.toArray⟩, .int .i64 0, .bool false] 93)
 have X0 : Hid (TS w w.heap.size s (s, false) (.slice (some ⟨w.heap.size + 1, 0, none⟩) 0 0) [] ((w.alloc (.cells #[.string ⟨s.toArray⟩, .int .i64 0, .bool false] 93)).alloc (.cells #[] 57))) := by
  have o := World.ownsRow_made (w.alloc (.cells #[.string ⟨s.toArray⟩, .int .i64 0, .bool false] 93)) (base := w.heap.size + 1) (e := 57) #[] 0 (Nat.le_of_eq s1.symm) (by unfold maxLen; omega) (size := 2) rfl
  rw [s1] at o
  exact ⟨(RU.new s w).keep (S := fun _ => False) (Keeps.alloc _ _ _) id, ((Below.refl _ _).alloc (Nat.le_refl _) _).alloc (by omega) _, o, (fun y hy => by cases hy), rfl⟩
 clear s1
 have HQ := hq' (refopen_any w.heap.size s (s, false) _ hl X0.out.r)
 generalize Bd.sSign 108 (s, false) = q1 at *
 go_enter Tryz.func74, Tryz.ntmps74
 go_upto_region 3 with (fail)
 generalize (w.alloc (.cells #[.string ⟨s.toArray⟩, .int .i64 0, .bool false] 93)).alloc (.cells #[] 57) = w0 at *
 generalize (Value.slice (some ⟨w.heap.size + 1, 0, none⟩) 0 0) = v0 at *
 obtain ⟨p, hp⟩ : ∃ p, p = w.heap.size := ⟨_, rfl⟩
 rw [← hp] at X0 HQ ⊢
 have HP := hq' hp
 clear hp
 go_wp2_with fail
 refine HQ.out.mono ?_
 rintro e w1 ⟨rfl, h1⟩
 have X1 := hq' (X0.out.call h1)
 clear h1 HQ X0
 go_wp2_with fail
 go_loopw [5] (fun v wr => ∃ (acc : List (Wi.Seen × Value)) (qq : Bd.St), TS w p s qq v acc wr ∧ Cap Wi.tSeen 65 q1 (acc.map (·.1)) qq) (fun v _ => 65 - slLen v)
 case atStart => exact ⟨[], q1, X1.out, Cap.start _ _ _⟩
 case round =>
  obtain ⟨acc, qq, hr, ha⟩ := hrel
  have XR := hq' hr
  have HA := hq' ha
  have hal := ha.1
  rw [List.length_map] at hal
  have HM := hq' (refmore_any p s qq wr hl hr.r)
  obtain ⟨av, cv, hve⟩ := own_form hr.o
  subst hve
  clear hr ha X1
  go_wp2_with fail
  refine HM.out.mono ?_
  rintro e w8 ⟨rfl, nm, rfl⟩
  have X8 := hq' (XR.out.below (below_drewN (Below.refl _ _) nm))
  clear XR HM
  generalize wr.drewN nm = w8 at *
  by_cases hgo : Bd.sMore qq = true ∧ acc.length < 65
  ·obtain ⟨hm, hlt⟩ := hgo
   have HN0 := hq' (HA.out.next hm (by rw [List.length_map]; exact hlt))
   have HE : Hid (Wi.tSeen qq = (((Bd.sInt (Bd.sSign 108 qq)).1, (Wi.sMany Wi.sSlot 6 (Bd.sInt (Bd.sSign 108 qq)).2).1), Bd.sSign 101 (Wi.sMany Wi.sSlot 6 (Bd.sInt (Bd.sSign 108 qq)).2).2)) := rfl
   rw [HE.out] at HN0
   have HN : Hid (∀ l1 l2, Wi.sMany Wi.sSlot 6 (Bd.sInt (Bd.sSign 108 qq)).2 = (l1, l2) → Cap Wi.tSeen 65 q1 (acc.map (·.1) ++ [((Bd.sInt (Bd.sSign 108 qq)).1, l1)]) (Bd.sSign 101 l2)) := fun l1 l2 h => by
    have := HN0.out
    rwa [h] at this
   rw [hm]
   have hlti : ((acc.length : Nat) : Int) < 65 := by omega
   have XA : Hid (TX w p s w8.heap.size qq (.slice av acc.length cv) acc 0 none 0 [] (w8.alloc (.cells #[.int .i64 0, .slice none 0 0] 57))) :=
    ⟨X8.out.keep (S := fun _ => False) (Keeps.alloc _ _ _) (X8.out.r.keep (S := fun _ => False) (Keeps.alloc _ _ _) id) (fun _ _ => id) (fun _ _ => id) (fun _ _ _ _ => id), Cl.new _ _ _, ⟨rfl, .inl ⟨rfl, rfl⟩⟩, X8.out.r.lt, fun j hj => (X8.out.o.lt j hj).2, fun y hy j hj => ((X8.out.s y hy).lt j hj).2⟩
   have HO1 := hq' (fun W (h : RU W p s qq) => refopen_any p s qq W hl h)
   have HI1 := hq' (fun W (h : RU W p s (Bd.sSign 108 qq)) => refint_any p s (Bd.sSign 108 qq) W hl h)
   unfold RIV at HI1
   clear hm HA HE HN0 X8
   generalize (Bd.sInt (Bd.sSign 108 qq)).1 = prod at *
   generalize (Bd.sInt (Bd.sSign 108 qq)).2 = qa at *
   generalize Bd.sSign 108 qq = q0 at *
   go_upto_region 6 with (fail)
   generalize w8.alloc (.cells #[.int .i64 0, .slice none 0 0] 57) = wA at *
   generalize w8.heap.size = bx at *
   go_wp2_with fail
   refine (HO1.out _ XA.out.t.r).mono ?_
   rintro e wb ⟨rfl, hb⟩
   have XB := hq' (XA.out.call hb)
   clear hb XA HO1
   go_wp2_with fail
   refine (HI1.out _ XB.out.t.r).mono ?_
   rintro e wb2 ⟨rfl, hb⟩
   have XC := hq' (XB.out.call hb)
   clear hb XB HI1
   have t0 : wb2.cell? ⟨bx, 0, none⟩ = some (.int .i64 0) := XC.out.cl.cell 0
   have tf := XC.out.cl.free 0
   have XD := hq' (XC.out.prod prod)
   go_upto_block 2 with (fail)
   clear XC t0 tf
   generalize wb2.setCell ⟨bx, 0, none⟩ (.int .i64 prod) = wB at *
   go_cut [] (fun wz => ∃ (sl : List Wi.Slot) (a : Option Addr) (c : Nat) (qz : Bd.St), TX w p s bx qz (.slice av acc.length cv) acc prod a c sl wz ∧ Wi.sMany Wi.sSlot 6 qa = (sl, qz))
   case first =>
    clear HN
    go_wp2_with fail
    go_loopw [34] (fun _ wr => ∃ (sl : List Wi.Slot) (a : Option Addr) (c : Nat) (qi : Bd.St), TX w p s bx qi (.slice av acc.length cv) acc prod a c sl wr ∧ Cap Wi.sSlot 6 qa sl qi) (fun _ W => 6 - lenS W bx)
    case atStart => exact ⟨[], none, 0, qa, XD.out, Cap.start _ _ _⟩
    case round =>
     obtain ⟨sl, a, c, qi, hr, ha⟩ := hrel
     have XI := hq' hr
     have HAi := hq' ha
     have hali := ha.1
     have HL0 := hq' (lenS_of hr.cl)
     have HMi := hq' (refmore_any p s qi wr hl hr.t.r)
     clear hr ha XD
     go_wp2_with fail
     refine HMi.out.mono ?_
     rintro e w7 ⟨rfl, nk, rfl⟩
     have X7 := hq' (XI.out.below (below_drewN (Below.refl _ _) nk))
     clear XI HMi
     generalize wr.drewN nk = w7 at *
     have c1 : w7.cell? ⟨bx, 1, none⟩ = some (.slice a sl.length c) := X7.out.cl.cell 1
     by_cases hgi : Bd.sMore qi = true ∧ sl.length < 6
     ·obtain ⟨hm, hlt2⟩ := hgi
      have HNi := hq' (HAi.out.next hm hlt2)
      have HEi : Hid (Wi.sSlot qi = (((Bd.sInt (Bd.sSign 108 qi)).1, (Bd.sInt (Bd.sInt (Bd.sSign 108 qi)).2).1, (Bd.sInt (Bd.sInt (Bd.sInt (Bd.sSign 108 qi)).2).2).1), Bd.sSign 101 (Bd.sInt (Bd.sInt (Bd.sInt (Bd.sSign 108 qi)).2).2).2)) := rfl
      rw [HEi.out] at HNi
      rw [hm]
      have hlti2 : ((sl.length : Nat) : Int) < 6 := by omega
      have XY : Hid (TY w p s bx w7.heap.size qi (.slice av acc.length cv) acc prod a c sl [.int .i64 0, .int .i64 0, .int .i64 0] (w7.alloc (.cells #[.int .i64 0, .int .i64 0, .int .i64 0] 113))) :=
       ⟨⟨X7.out.t.keep (S := fun _ => False) (Keeps.alloc _ _ _) (X7.out.t.r.keep (S := fun _ => False) (Keeps.alloc _ _ _) id) (fun _ _ => id) (fun _ _ => id) (fun _ _ _ _ => id), X7.out.cl.alloc _, World.ownsRow.alloc X7.out.o _, X7.out.hx, X7.out.hv, X7.out.hs⟩, Cl.new _ _ _, X7.out.cl.lt, fun j hj => (X7.out.o.lt j hj).2⟩
      have J0 := hq' (fun W (h : RU W p s qi) => refopen_any p s qi W hl h)
      have J1 := hq' (fun W (h : RU W p s (Bd.sSign 108 qi)) => refint_any p s (Bd.sSign 108 qi) W hl h)
      have J2 := hq' (fun W (h : RU W p s (Bd.sInt (Bd.sSign 108 qi)).2) => refint_any p s (Bd.sInt (Bd.sSign 108 qi)).2 W hl h)
      have J3 := hq' (fun W (h : RU W p s (Bd.sInt (Bd.sInt (Bd.sSign 108 qi)).2).2) => refint_any p s (Bd.sInt (Bd.sInt (Bd.sSign 108 qi)).2).2 W hl h)
      have JC := hq' (fun W (h : RU W p s (Bd.sInt (Bd.sInt (Bd.sInt (Bd.sSign 108 qi)).2).2).2) => refclose_any p s _ W hl h)
      unfold RIV at J1 J2 J3
      clear hm HAi HEi X7
      generalize Bd.sSign 101 (Bd.sInt (Bd.sInt (Bd.sInt (Bd.sSign 108 qi)).2).2).2 = q6 at *
      generalize (Bd.sInt (Bd.sInt (Bd.sInt (Bd.sSign 108 qi)).2).2).1 = n2 at *
      generalize (Bd.sInt (Bd.sInt (Bd.sInt (Bd.sSign 108 qi)).2).2).2 = q5 at *
      generalize (Bd.sInt (Bd.sInt (Bd.sSign 108 qi)).2).1 = n1 at *
      generalize (Bd.sInt (Bd.sInt (Bd.sSign 108 qi)).2).2 = q4 at *
      generalize (Bd.sInt (Bd.sSign 108 qi)).1 = n0 at *
      generalize (Bd.sInt (Bd.sSign 108 qi)).2 = q3 at *
      generalize Bd.sSign 108 qi = q2 at *
      go_upto_region 10 with (fail)
      clear c1
      generalize w7.alloc (.cells #[.int .i64 0, .int .i64 0, .int .i64 0] 113) = wY at *
      generalize w7.heap.size = yb at *
      go_wp2_with fail
      refine (J0.out _ XY.out.x.t.r).mono ?_
      rintro e u0 ⟨rfl, g⟩
      have Z0 := hq' (XY.out.call g)
      clear g XY J0
      go_wp2_with fail
      refine (J1.out _ Z0.out.x.t.r).mono ?_
      rintro e u1 ⟨rfl, g⟩
      have Y1 := hq' (Z0.out.call g)
      clear g Z0 J1
      have t0 : u1.cell? ⟨yb, 0, none⟩ = some (.int .i64 0) := Y1.out.y.cell 0
      have tf := Y1.out.y.free 0
      have Z1 : Hid (TY w p s bx yb q3 (.slice av acc.length cv) acc prod a c sl [.int .i64 n0, .int .i64 0, .int .i64 0] (u1.setCell ⟨yb, 0, none⟩ (.int .i64 n0))) := Y1.out.set 0 _
      go_upto_region 12 with (fail)
      clear Y1 t0 tf
      generalize u1.setCell ⟨yb, 0, none⟩ (.int .i64 n0) = k1 at *
      go_wp2_with fail
      refine (J2.out _ Z1.out.x.t.r).mono ?_
      rintro e u2 ⟨rfl, g⟩
      have Y2 := hq' (Z1.out.call g)
      clear g Z1 J2
      have t0 : u2.cell? ⟨yb, 1, none⟩ = some (.int .i64 0) := Y2.out.y.cell 1
      have tf := Y2.out.y.free 1
      have Z2 : Hid (TY w p s bx yb q4 (.slice av acc.length cv) acc prod a c sl [.int .i64 n0, .int .i64 n1, .int .i64 0] (u2.setCell ⟨yb, 1, none⟩ (.int .i64 n1))) := Y2.out.set 1 _
      go_upto_region 13 with (fail)
      clear Y2 t0 tf
      generalize u2.setCell ⟨yb, 1, none⟩ (.int .i64 n1) = k2 at *
      go_wp2_with fail
      refine (J3.out _ Z2.out.x.t.r).mono ?_
      rintro e u3 ⟨rfl, g⟩
      have Y3 := hq' (Z2.out.call g)
      clear g Z2 J3
      have t0 : u3.cell? ⟨yb, 2, none⟩ = some (.int .i64 0) := Y3.out.y.cell 2
      have tf := Y3.out.y.free 2
      have Z3 : Hid (TY w p s bx yb q5 (.slice av acc.length cv) acc prod a c sl [.int .i64 n0, .int .i64 n1, .int .i64 n2] (u3.setCell ⟨yb, 2, none⟩ (.int .i64 n2))) := Y3.out.set 2 _
      go_upto_region 14 with (fail)
      clear Y3 t0 tf
      generalize u3.setCell ⟨yb, 2, none⟩ (.int .i64 n2) = k3 at *
      go_wp2_with fail
      refine (JC.out _ Z3.out.x.t.r).mono ?_
      rintro e u4 ⟨rfl, g⟩
      have YC := hq' (Z3.out.call g)
      clear g Z3 JC
      have c1 : u4.cell? ⟨bx, 1, none⟩ = some (.slice a sl.length c) := YC.out.x.cl.cell 1
      have y0 : u4.cell? ⟨yb, 0, none⟩ = some (.int .i64 n0) := YC.out.y.cell 0
      have y1 : u4.cell? ⟨yb, 1, none⟩ = some (.int .i64 n1) := YC.out.y.cell 1
      have y2 : u4.cell? ⟨yb, 2, none⟩ = some (.int .i64 n2) := YC.out.y.cell 2
      go_wp2_with (at_builtin; refine wpList_append_own _ rfl _ _ 55 rfl (bx + 1) 113 i1 _ 3 24 Tryz.underlying55 hi1 hy0 hy1 hy2 rfl (by decide) _ _ _ rfl (World.ownsRow.alloc YC.out.x.o _) ⟨u4.heap.size, 0, none⟩ 1 1 [.int .i64 n0, .int .i64 n1, .int .i64 n2] rfl rfl (World.news_of_block (cs := #[.int .i64 n0, .int .i64 n1, .int .i64 n2]) (t := 113) (fr := (0, 0)) (heap_alloc_new u4 _)) (by simp [Value.oneCell']) ?_ ?_ ?_ ?_)
      ·unfold maxLen; omega
      ·omega
      ·have := YC.out.x.cl.lt; first | omega | (rw [World.size_alloc]; omega) | (simp; omega)
      intro v' wE hownE hgE _
      obtain ⟨sl', hsl'⟩ : ∃ sl', sl' = sl ++ [(n0, n1, n2)] := ⟨_, rfl⟩
      have hln : sl'.length = sl.length + 1 := by rw [hsl', List.length_append]; rfl
      have ho : wE.ownsRow (bx + 1) 113 3 v' sl'.length (slotCells sl') := by
       rw [hln, hsl', slotCells_app]
       exact hownE
      rw [← hsl'] at HNi
      have HLN := hq' hln
      clear hsl' hownE hln
      have CW : Keeps (fun j => bx + 1 ≤ j) u4 wE := (Keeps.alloc _ _ _).trans (Keeps.grown hgE (fun j hj => (YC.out.x.o.lt j hj).1))
      obtain ⟨a', c', hve'⟩ := own_form ho
      subst hve'
      have C5 := YC.out.x.cl.keep CW (by omega)
      have f5 := C5.free 1
      have b5 : wE.cell? ⟨bx, 1, none⟩ = some (.slice a sl.length c) := C5.cell 1
      have XF := hq' (YC.out.x.app CW ho)
      have HXL := hq' (lenS_of XF.out.cl)
      clear CW C5 ho hgE YC c1 y0 y1 y2
      go_wp2
      go_roundw
      case rel => exact ⟨sl', a', c', q6, XF.out, HNi.out⟩
      case measure => rw [HXL.out, HL0.out, HLN.out]; omega
     ·have HST : Hid (Wi.sMany Wi.sSlot 6 qa = (sl, qi)) := HAi.out.stop (by
       cases hm : Bd.sMore qi with
       | false => exact .inl rfl
       | true => right; exact Nat.le_of_not_lt fun h => hgi ⟨hm, h⟩)
      clear HAi
      cases hm : Bd.sMore qi with
      | true =>
       have hlti : ¬ ((sl.length : Nat) : Int) < 6 := by
        have : ¬ sl.length < 6 := fun h => hgi ⟨hm, h⟩
        omega
       clear hm hgi
       go_wp2
       go_meet
       case rel => exact ⟨sl, a, c, qi, X7.out, HST.out⟩
      | false =>
       clear hm hgi
       go_wp2
       go_meet
       case rel => exact ⟨sl, a, c, qi, X7.out, HST.out⟩
   case rest =>
    obtain ⟨sl, a, c, qz, hx, he⟩ := hcut
    have XZ := hq' hx
    have HNN := hq' (HN.out sl qz he)
    have HC := hq' (refclose_any p s qz wc hl hx.t.r)
    clear hx he HN XD
    generalize Bd.sSign 101 qz = q9 at *
    go_wp2_with fail
    refine HC.out.mono ?_
    rintro e w6 ⟨rfl, h6⟩
    have X6 := hq' (XZ.out.call h6)
    clear h6 XZ HC
    have c0 : w6.cell? ⟨bx, 0, none⟩ = some (.int .i64 prod) := X6.out.cl.cell 0
    have c1 : w6.cell? ⟨bx, 1, none⟩ = some (.slice a sl.length c) := X6.out.cl.cell 1
    have hbx := X6.out.cl.lt
    have hpx := X6.out.hx
    go_wp2_with (at_builtin; refine wpList_append_own _ rfl _ _ 29 rfl (p + 1) 57 i0 _ 2 32 Tryz.underlying29 hi hz0 hz1 hz2 rfl (by decide) _ _ _ rfl (World.ownsRow.alloc X6.out.t.o _) ⟨w6.heap.size, 0, none⟩ 1 1 [.int .i64 prod, .slice a sl.length c] rfl rfl (World.news_of_block (cs := #[.int .i64 prod, .slice a sl.length c]) (t := 57) (fr := (0, 0)) (heap_alloc_new w6 _)) (by simp [Value.oneCell']) ?_ ?_ ?_ ?_)
    ·unfold maxLen; omega
    ·omega
    ·first | omega | (rw [World.size_alloc]; omega) | (simp; omega)
    intro v' wE hownB hgB _
    have KB : Hid (Keeps (fun j => (Value.slice av acc.length cv).ownBlock = some j) w6 wE) := (Keeps.alloc _ _ _).trans (Keeps.grown hgB (fun j hj => hj))
    have hEl : ∀ j, (Value.slice av acc.length cv).ownBlock = some j → p + 1 ≤ j := fun j hj => (X6.out.t.o.lt j hj).1
    have XE : Hid (TS w p s q9 v' (acc ++ [((prod, sl), Value.slice a sl.length c)]) wE) := by
     refine ⟨X6.out.t.r.keep KB.out (fun e => by have := hEl p e; omega), X6.out.t.b.trans (KB.out.toBelow X6.out.t.b.size (fun j hj e => by have := hEl j e; have := HP.out; omega)), ?_, fun y hy => ?_, HP.out⟩
     ·rw [tabCells_app, List.length_append]
      exact hownB
     ·have h0 : w6.ownsRow (p + 1) 113 3 y.2 y.1.2.length (slotCells y.1.2) := by
       rcases List.mem_append.1 hy with hy | hy
       ·exact X6.out.t.s y hy
       ·rw [List.mem_singleton.1 hy]; exact ownsRow_weaken X6.out.o (by omega)
      exact ownsRow_keepsS h0 KB.out (fun j hj e => own_ne2 h0 X6.out.t.o (by decide) j hj e)
    obtain ⟨av', cv', hve'⟩ := own_form hownB
    subst hve'
    clear hownB hgB KB hEl X6 c0 c1 hbx hpx
    go_wp2
    go_roundw
    case rel => exact ⟨acc ++ [((prod, sl), Value.slice a sl.length c)], q9, XE.out, by rw [List.map_append, List.map_singleton]; exact HNN.out⟩
    case measure => simp only [slLen]; omega
  ·have HEE : Hid (Wi.sMany Wi.tSeen 65 q1 = (acc.map (·.1), qq)) := HA.out.stop (by
    cases hm : Bd.sMore qq with
    | false => exact .inl rfl
    | true => right; rw [List.length_map]; exact Nat.le_of_not_lt fun h => hgo ⟨hm, h⟩)
   have HC := hq' (refclose_any p s qq w8 hl X8.out.r)
   have HD2 : Hid (Wi.tTable s = if (decide (Bd.sDone (Bd.sSign 101 qq) = 0) && Wi.tableB (acc.map (·.1))) then some (acc.map (·.1)) else none) := by
    have := HD.out
    rwa [HEE.out] at this
   have HTK : Hid (TabOk (acc.map (·.1))) := by
    have := HTO.out
    rwa [HEE.out] at this
   clear HA HD HTO HEE
   generalize Bd.sSign 101 qq = qz at *
   have hcs : (Bd.sMore qq = true ∧ ¬ ((acc.length : Nat) : Int) < 65) ∨ Bd.sMore qq = false := by
    cases hm : Bd.sMore qq with
    | false => exact .inr rfl
    | true =>
     have : ¬ acc.length < 65 := fun h => hgo ⟨hm, h⟩
     exact .inl ⟨rfl, by omega⟩
   clear hgo
   rcases hcs with ⟨hm, hlti⟩ | hm
   all_goals
    rw [hm]
    clear hm
    go_wp2_with fail
    refine HC.out.mono ?_
    rintro e w9 ⟨rfl, h9⟩
    have X9 := hq' (X8.out.call h9)
    clear h9 X8 HC
    have HDN9 := hq' (refdone_any p s qz w9 hl X9.out.r)
    go_wp2_with fail
    refine HDN9.out.mono ?_
    rintro e wd ⟨rfl, nd, rfl⟩
    have XD := hq' (X9.out.below (below_drewN (Below.refl _ _) nd))
    clear X9 HDN9
    generalize w9.drewN nd = wd at *
    have TD : Hid (TabO wd (p + 1) (.slice av acc.length cv) (acc.map (·.1))) := ⟨acc, rfl, XD.out.o, XD.out.s⟩
    have BD := hq' XD.out.b
    by_cases hd : Bd.sDone qz = 0
    ·have HG := hq' (refgood6_any (acc.map (·.1)) HTK.out.1 (fun x hx => (HTK.out.2 x hx).2.1) (.slice av acc.length cv) wd TD.out.tbl)
     rw [decide_eq_true hd] at HD2
     rw [hd]
     cases hg : Wi.tableB (acc.map (·.1)) with
     | true =>
      rw [hg] at HG HD2
      have HD3 : Hid (Wi.tTable s = some (acc.map (·.1))) := HD2.out
      clear hg hd HD2 XD
      go_wp2_with fail
      refine HG.out.mono ?_
      rintro e wA ⟨rfl, hbA⟩
      have HBA := hq' hbA
      clear hbA
      go_wp2
      go_ret2
      rw [HD3.out]
      exact ⟨_, rfl, (TD.out.keepsS (Keeps.below (fun _ => False) HBA.out) (fun _ _ => id)).weaken (by have := HP.out; omega), HTK.out, bt BD.out HBA.out⟩
     | false =>
      rw [hg] at HG HD2
      have HD3 : Hid (Wi.tTable s = none) := HD2.out
      clear hg hd HD2 XD
      go_wp2_with fail
      refine HG.out.mono ?_
      rintro e wA ⟨rfl, hbA⟩
      have HBA := hq' hbA
      clear hbA
      go_wp2
      go_ret2
      rw [HD3.out]
      exact LedR.no (bt BD.out HBA.out)
    ·rw [decide_eq_false hd] at HD2
     have HD3 : Hid (Wi.tTable s = none) := HD2.out
     have hd2 : (Bd.sDone qz != 0) = true := by simpa using hd
     clear HD2 hd XD TD
     generalize Bd.sDone qz = dn at *
     go_wp2
     go_ret2
     rw [HD3.out]
     exact LedR.no BD.out
end Go.Proofs.YtjfpbeccpcbpcaaGreatDoor
