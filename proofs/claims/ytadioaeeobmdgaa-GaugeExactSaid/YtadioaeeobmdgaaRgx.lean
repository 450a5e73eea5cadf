/-
  GaugeExact, walked.
  Conditions: none but the model's longest length.
-/
import Derived.Test.YtadioaeeobmdgaaRge
import Derived.Deep.DeepCutAuto
import Derived.Deep.CutBlock
import Derived.Deep.RegionHeld3
import Derived.Test.YtadioaeeobmdgaaQt
set_option linter.unusedVariables false
set_option linter.unusedSimpArgs false
namespace Go.Proofs.Ytadioaeeobmdgaa
open Go.RowKit Fl

theorem run_store_float (P : Program) (w : World) (a : Addr) (m : Mode) (k : FloatKind) (x : Nat) : (store a (.float k x) m).run P w = stored P w a (.float k x) m := run_store P w a _ m rfl
attribute [local go_sem] run_store_float
/-- An act: what is done, the two parts' bits, the place. -/
structure GAct where
  kind : Int
  re : Nat
  im : Nat
  pos : Int
def Acts (w : World) (v : Value) (l : List GAct) : Prop :=
  ∃ a cap, v = .slice a l.length cap ∧ ∀ i x, l[i]? = some x → ∃ g off, a = some ⟨g, off, none⟩ ∧ g < w.heap.size ∧ w.cell? ⟨g, off + i * 4, none⟩ = some (.int .i64 x.kind) ∧ w.cell? ⟨g, off + i * 4 + 1, none⟩ = some (.float .f64 x.re) ∧
    w.cell? ⟨g, off + i * 4 + 2, none⟩ = some (.float .f64 x.im) ∧ w.cell? ⟨g, off + i * 4 + 3, none⟩ = some (.int .i64 x.pos)
theorem Acts.get {w w' : World} {v : Value} {l : List GAct} (h : Acts w v l) (hb : Below w.heap.size w w') {k : Nat} {x : GAct} (hx : l[k]? = some x) :
    ∃ g off cap, v = .slice (some ⟨g, off, none⟩) l.length cap ∧ g < w.heap.size ∧ w'.cell? ⟨g, off + k * 4, none⟩ = some (.int .i64 x.kind) ∧ w'.cell? ⟨g, off + k * 4 + 1, none⟩ = some (.float .f64 x.re) ∧
    w'.cell? ⟨g, off + k * 4 + 2, none⟩ = some (.float .f64 x.im) ∧ w'.cell? ⟨g, off + k * 4 + 3, none⟩ = some (.int .i64 x.pos) := by
  obtain ⟨a, cap, rfl, hc⟩ := h
  obtain ⟨g, off, rfl, hg, h0, h1, h2, h3⟩ := hc k x hx
  exact ⟨g, off, cap, rfl, hg, (hb.cell hg).trans h0, (hb.cell hg).trans h1, (hb.cell hg).trans h2, (hb.cell hg).trans h3⟩
theorem Cl.turned {w w' : World} {p g : Nat} {v v' : Value} {cs : List Value} {t : TypeId} (h : Cl w g cs t) (ht : Turned w w' p v v') (hp : g ≠ p) (hv : v.ownBlock ≠ some g) : Cl w' g cs t :=
  h.keep ht.1 (fun hs => hs.elim hp hv)
/-- The two rows beside each other, with the same sizes. -/
def Two (w0 w : World) (p u : Nat) (ns : List (Nat × Nat)) : Prop :=
  ∃ v x, GRow w w0.heap.size p v ns ∧ RRow w w0.heap.size u x ns ∧ Apart w p u v x ∧ Below w0.heap.size w0 w
theorem Two.below {w0 w w' : World} {p u : Nat} {ns : List (Nat × Nat)} (h : Two w0 w p u ns) (hb : Below w.heap.size w w') : Two w0 w' p u ns := by
  obtain ⟨v, x, hg, hr, ha, hB⟩ := h
  exact ⟨v, x, hg.kept (Keeps.below (fun _ => False) hb) id (fun _ _ => id), hr.below hb, ⟨ha.1, ha.2, ha.3, ha.4⟩, bt hB hb⟩
theorem Two.sizes {w0 w : World} {p u : Nat} {ns : List (Nat × Nat)} (h : Two w0 w p u ns) : Sizes ns ∧ ns.length ≤ 4096 := by
  obtain ⟨v, x, hg, hr, ha, hB⟩ := h
  exact ⟨hg.2.2.2.2.1, hg.2.2.2.2.2⟩
/-- The two rows, and a block g of the call's own beside them. -/
structure OffS (w0 w : World) (p u g : Nat) (v x : Value) (ns ms : List (Nat × Nat)) : Prop where
  G : GRow w w0.heap.size p v ns
  R : RRow w w0.heap.size u x ms
  A : Apart w p u v x
  B : Below w0.heap.size w0 w
  gp : g ≠ p
  gu : g ≠ u
  gv : v.ownBlock ≠ some g
  gx : x.ownBlock ≠ some g
def Off (w : World) (p u : Nat) (g : Nat) (ns ms : List (Nat × Nat)) (w0 : World) : Prop := ∃ v x, OffS w0 w p u g v x ns ms
theorem Off.two {w w0 : World} {p u g : Nat} {ns : List (Nat × Nat)} (h : Off w p u g ns ns w0) : Two w0 w p u ns := by
  obtain ⟨v, x, h⟩ := h
  exact ⟨v, x, h.G, h.R, h.A, h.B⟩
theorem Off.new {w0 w : World} {p u : Nat} {ns : List (Nat × Nat)} (h : Two w0 w p u ns) (o : Obj) : Off (w.alloc o) p u w.heap.size ns ns w0 := by
  obtain ⟨v, x, hg, hr, ha, hB⟩ := h
  have hb := (Below.refl w.heap.size w).alloc (Nat.le_refl _) o
  have l1 := hg.lt
  have l2 := hr.lt
  exact ⟨v, x, hg.kept (Keeps.below (fun _ => False) hb) id (fun _ _ => id), hr.below hb, ⟨ha.1, ha.2, ha.3, ha.4⟩, bt hB hb, by omega, by omega, fun e => by have := (hg.2.2.1.lt _ e).2; omega, fun e => by have := (hr.2.2.1.lt _ e).2; omega⟩
theorem OffS.below {w0 w w' : World} {p u g : Nat} {v x : Value} {ns ms : List (Nat × Nat)} (h : OffS w0 w p u g v x ns ms) (hb : Below w.heap.size w w') : OffS w0 w' p u g v x ns ms :=
  ⟨h.G.kept (Keeps.below (fun _ => False) hb) id (fun _ _ => id), h.R.below hb, ⟨h.A.1, h.A.2, h.A.3, h.A.4⟩, bt h.B hb, h.gp, h.gu, h.gv, h.gx⟩
theorem Turned.belowB {w w' : World} {B p : Nat} {v v' : Value} (h : Turned w w' p v v') (hp : B ≤ p) (hB : B ≤ w.heap.size) (hv : ∀ k, v.ownBlock = some k → B ≤ k) : Below B w w' :=
  h.1.toBelow hB (fun k hk hs => by
    rcases hs with rfl | hs
    · omega
    · have := hv k hs; omega)
theorem belowB_trans {w0 a b : World} (h : Below w0.heap.size w0 a) (k : Below w0.heap.size a b) : Below w0.heap.size w0 b := h.trans k
theorem OffS.turnG {w0 w w' : World} {p u g : Nat} {v x v' : Value} {ns ms ns' : List (Nat × Nat)} (h : OffS w0 w p u g v x ns ms) (ht : Turned w w' p v v') (hg : GRow w' w0.heap.size p v' ns') (hgl : g < w.heap.size) : OffS w0 w' p u g v' x ns' ms := by
  obtain ⟨hr', ha'⟩ := ht.other h.A h.R
  exact ⟨hg, hr', ha', h.B.trans (ht.belowB h.G.2.1 h.B.size (fun k hk => (h.G.2.2.1.lt k hk).1)), h.gp, h.gu, fun e => by
    rcases ht.2 with e2 | e2
    · exact h.gv (e2 ▸ e)
    · have := e2 g e; omega, h.gx⟩
theorem OffS.turnR {w0 w w' : World} {p u g : Nat} {v x x' : Value} {ns ms ms' : List (Nat × Nat)} (h : OffS w0 w p u g v x ns ms) (ht : Turned w w' u x x') (hr : RRow w' w0.heap.size u x' ms') (hgl : g < w.heap.size) : OffS w0 w' p u g v x' ns ms' := by
  obtain ⟨hg', ha'⟩ := ht.otherG h.A.symm h.G
  exact ⟨hg', hr, ha'.symm, h.B.trans (ht.belowB h.R.2.1 h.B.size (fun k hk => (h.R.2.2.1.lt k hk).1)), h.gp, h.gu, h.gv, fun e => by
    rcases ht.2 with e2 | e2
    · exact h.gx (e2 ▸ e)
    · have := e2 g e; omega⟩
theorem turned_size {w w' : World} {p : Nat} {v v' : Value} (h : Turned w w' p v v') : w.heap.size ≤ w'.heap.size := h.1.size
theorem rsum_any (B p : Nat) (v : Value) (ns : List (Nat × Nat)) (w : World) (h : RRow w B p v ns) :
    Calls Try.prog 26 #[.pointer (some ⟨p, 0, none⟩), .int .i64 ns.length] w fun e w' => e = .returned (szV (sA ns, sB ns)) ∧ Below w.heap.size w w' := by
  have := rahead_any B p v ns ns.length w h
  rwa [Int.toNat_natCast, List.take_length] at this
theorem drewN_below {w : World} {v : Value} {e : Ending} {w' : World} (h : e = .returned v ∧ ∃ n, w' = w.drewN n) : e = .returned v ∧ Below w.heap.size w w' := by
  obtain ⟨h1, n, rfl⟩ := h
  exact ⟨h1, below_drewN (Below.refl _ _) n⟩
theorem some_or_none (x y : Nat) : (∃ a b, Fl.part x = some a ∧ Fl.part y = some b) ∨ (Fl.part x = none ∨ Fl.part y = none) := by
  cases Fl.part x with
  | none => exact .inr (.inl rfl)
  | some a =>
    cases Fl.part y with
    | none => exact .inr (.inr rfl)
    | some b => exact .inl ⟨a, b, rfl, rfl⟩
theorem eq_cx (q : Nat × Nat) (h : q.1 < 2 ^ 53 ∧ q.2 < 2 ^ 53) (w : World) : (binOp .neq 30 (cx q) (cx q)).run Try.prog w = .ok (.bool false) w := by
  have e1 := eq_same h.1
  have e2 := eq_same h.2
  simp [binOp, Op.complexOp, Op.Complex.cmp, Op.floatCmp, asBool, e1, e2]

theorem eq_cx0 (w : World) : (binOp .neq 30 (cx (0, 0)) (cx (0, 0))).run Try.prog w = .ok (.bool false) w := eq_cx (0, 0) ⟨by decide, by decide⟩ w
theorem eq_zero_cx (w : World) : (binOp .neq 30 (.complex .f64 0 0) (.complex .f64 0 0)).run Try.prog w = .ok (.bool false) w := by
  have := eq_cx0 w
  rwa [cx, fl_zero] at this
set_option maxRecDepth 20000 in
set_option maxHeartbeats 3200000 in
theorem exact_walk (v : Value) (l : List GAct) (w : World) (h : Acts w v l) (hm : l.length ≤ maxLen) (hok : ∀ x ∈ l, -9223372036854775808 ≤ x.pos ∧ x.pos ≤ 9223372036854775807) :
    Calls Try.prog 5 #[v] w fun e w' => e = .returned (.bool true) ∧ Below w.heap.size w w' := by
  have HA := Lib.hid h
  have HO := Lib.hid hok
  unfold maxLen at hm
  obtain ⟨a, cap, rfl, -⟩ := id h
  clear h hok
  go_enter Try.func5, Try.ntmps5
  go_wp2_with fail
  refine (awake_any _).mono ?_
  rintro e w1 ⟨rfl, hb1⟩
  have B1 := Lib.hid hb1
  clear hb1
  go_wp2_with fail
  refine (new_any _).mono ?_
  rintro e w2 ⟨rfl, rfl⟩
  have G2 := Lib.hid (GRow.new w1 w.heap.size B1.out.size)
  have hsz2 : (w1.alloc (.cells #[.slice none 0 0] 64)).heap.size = w1.heap.size + 1 := by simp
  have T3 : Hid (Two w ((w1.alloc (.cells #[.slice none 0 0] 64)).alloc (.cells #[.slice none 0 0] 45)) w1.heap.size (w1.heap.size + 1) []) := by
    have hR := RRow.new (w1.alloc (.cells #[.slice none 0 0] 64)) w.heap.size (by have := B1.out.size; omega)
    rw [hsz2] at hR
    refine ⟨_, _, G2.out.kept (S := fun _ => False) (Keeps.alloc _ _ _) id (fun _ _ => id), hR, ⟨by omega, by simp [Value.ownBlock], by simp [Value.ownBlock], fun k hk => by simp [Value.ownBlock] at hk⟩, (B1.out.alloc B1.out.size _).alloc (by have := B1.out.size; omega) _⟩
  have hpu : w.heap.size ≤ w1.heap.size := B1.out.size
  clear G2 hsz2
  go_upto_region 5 with (fail)
  generalize (w1.alloc (.cells #[.slice none 0 0] 64)).alloc (.cells #[.slice none 0 0] 45) = w3 at *
  generalize w1.heap.size = p at *
  clear B1
  go_wp2
  go_loopw [5] (fun i wr => ∃ (k : Nat) (ns : List (Nat × Nat)), i = .int .i64 k ∧ k ≤ l.length ∧ k ≤ 150 ∧ ns.length ≤ k ∧ Two w wr p (p + 1) ns) (fun i _ => l.length - (intOf i).toNat)
  case atStart => exact ⟨0, [], rfl, by omega, by omega, by simp, T3.out⟩
  case round =>
    obtain ⟨k, ns, rfl, hk, hk2, hnk, htwo⟩ := hrel
    have T := Lib.hid htwo
    clear htwo
    by_cases hlt : k < l.length
    · by_cases h150 : k < 150
      · obtain ⟨x, hx⟩ : ∃ x, l[k]? = some x := ⟨l[k], by simp [hlt]⟩
        have hxo := HO.out x (List.mem_of_getElem? hx)
        have BR : Hid (Below w.heap.size w wr) := by obtain ⟨_, _, _, _, _, hb⟩ := T.out; exact hb
        obtain ⟨g, off, cap', he, hg, p0, p1, p2, p3⟩ := HA.out.get BR.out hx
        injection he with he1 he2 he3
        subst he1 he3
        obtain ⟨xk, xr, xi, xp⟩ := x
        dsimp only at *
        clear he2 hx
        have CA : Hid (Cl (wr.alloc (.cells #[.int .i64 xk, .float .f64 xr, .float .f64 xi, .int .i64 xp] 47)) wr.heap.size [.int .i64 xk, .float .f64 xr, .float .f64 xi, .int .i64 xp] 47) := Cl.new _ _ _
        have O0 := Lib.hid (Off.new T.out (.cells #[.int .i64 xk, .float .f64 xr, .float .f64 xi, .int .i64 xp] 47))
        go_upto_region 9 with (fail)
        generalize wr.alloc (.cells #[.int .i64 xk, .float .f64 xr, .float .f64 xi, .int .i64 xp] 47) = wa at *
        generalize wr.heap.size = q at *
        clear T BR p0 p1 p2 p3
        have c0 : wa.cell? ⟨q, 0, none⟩ = some (.int .i64 xk) := CA.out.cell 0
        have c1 : wa.cell? ⟨q, 1, none⟩ = some (.float .f64 xr) := CA.out.cell 1
        have c2 : wa.cell? ⟨q, 2, none⟩ = some (.float .f64 xi) := CA.out.cell 2
        have c3 : wa.cell? ⟨q, 3, none⟩ = some (.int .i64 xp) := CA.out.cell 3
        go_upto_block 2 with (fail)
        go_cut [] (fun wx => ∃ ms : List (Nat × Nat), ms.length ≤ k + 1 ∧ Off wx p (p + 1) q ms ms w ∧ Cl wx q [.int .i64 xk, .float .f64 xr, .float .f64 xi, .int .i64 xp] 47)
        case first =>
          have HL : q < wa.heap.size := CA.out.lt
          obtain ⟨v0, x0, hoff⟩ := O0.out
          have S0 := Lib.hid hoff
          clear hoff O0
          by_cases e1 : xk = 1
          · subst e1
            rcases some_or_none xr xi with ⟨a, b, hpa, hpb⟩ | hno
            · have PA := Lib.hid hpa
              have PB := Lib.hid hpb
              clear hpa hpb
              go_wp2_with fail
              refine (push_any _ _ _ _ _ _ a b _ S0.out.G (by omega) PA.out PB.out).mono ?_
              rintro e w4 ⟨rfl, v4, hg4, ht4⟩
              have S4 := Lib.hid (S0.out.turnG ht4 hg4 HL)
              have C4 := Lib.hid (CA.out.turned ht4 S0.out.gp S0.out.gv)
              clear hg4 ht4
              go_wp2_with fail
              refine (rpush_any _ _ _ _ _ _ a b _ S4.out.R (by omega) PA.out PB.out).mono ?_
              rintro e w5 ⟨rfl, v5, hg5, ht5⟩
              have S5 := Lib.hid (S4.out.turnR ht5 hg5 C4.out.lt)
              have C5 := Lib.hid (C4.out.turned ht5 S4.out.gu S4.out.gx)
              clear hg5 ht5
              go_wp2
              go_meet
              case rel => exact ⟨ns ++ [(a, b)], by simp; omega, ⟨_, _, S5.out⟩, C5.out⟩
            · have HN := Lib.hid hno
              clear hno
              go_wp2_with fail
              refine (push_no _ _ _ _ _ _ _ S0.out.G (.inr HN.out)).mono ?_
              rintro e w4 ⟨rfl, rfl⟩
              go_wp2_with fail
              refine (rpush_no _ _ _ _ _ _ _ S0.out.R (.inr HN.out)).mono ?_
              rintro e w5 ⟨rfl, hb5⟩
              have S5 := Lib.hid (S0.out.below hb5)
              have C5 := Lib.hid (CA.out.below hb5)
              clear hb5
              go_wp2
              go_meet
              case rel => exact ⟨ns, by omega, ⟨_, _, S5.out⟩, C5.out⟩
          · by_cases e2 : xk = 2
            · subst e2
              have hq0 := eq_zero_cx
              cases ns with
              | nil =>
                go_wp2_with fail
                refine (shift_none _ _ _ _ S0.out.G).mono ?_
                rintro e w4 ⟨rfl, rfl⟩
                go_wp2_with fail
                refine (rshift_none _ _ _ _ S0.out.R).mono ?_
                rintro e w5 ⟨rfl, hb5⟩
                have S5 := Lib.hid (S0.out.below hb5)
                have C5 := Lib.hid (CA.out.below hb5)
                have S6 : Hid (OffS w (w5.alloc (.cells #[.int .i64 0, .int .i64 0] 52)) p (p + 1) q v0 x0 [] []) := S5.out.below ((Below.refl w5.heap.size w5).alloc (Nat.le_refl _) _)
                have C6 : Hid (Cl (w5.alloc (.cells #[.int .i64 0, .int .i64 0] 52)) q [.int .i64 1, .float .f64 xr, .float .f64 xi, .int .i64 xp] 47 ∨ Cl (w5.alloc (.cells #[.int .i64 0, .int .i64 0] 52)) q [.int .i64 2, .float .f64 xr, .float .f64 xi, .int .i64 xp] 47) := .inr (C5.out.alloc _)
                clear hb5
                go_wp2_with fail
                refine (complex_any 0 0 _).mono ?_
                rintro e w6 ⟨rfl, hb6⟩
                rw [show cx (0, 0) = .complex .f64 0 0 from by rw [cx, fl_zero]]
                have S7 := Lib.hid (S6.out.below hb6)
                have C7 := Lib.hid ((C5.out.alloc (.cells #[.int .i64 0, .int .i64 0] 52)).below hb6)
                clear hb6
                go_wp2
                go_meet
                case rel => exact ⟨[], by simp, ⟨_, _, S7.out⟩, C7.out⟩
              | cons s0 ms =>
                obtain ⟨sa, sb⟩ := s0
                have hsz := S0.out.G.2.2.2.2.1 (sa, sb) (by simp)
                have hms := most_lt
                have hq1 := eq_cx (sa, sb) ⟨Nat.lt_of_le_of_lt hsz.1 hms, Nat.lt_of_le_of_lt hsz.2 hms⟩
                clear hsz hms
                simp only [List.length_cons] at hnk
                go_wp2_with fail
                refine (shift_any _ _ _ _ _ _ S0.out.G).mono ?_
                rintro e w4 ⟨rfl, v4, hg4, ht4⟩
                have S4 := Lib.hid (S0.out.turnG ht4 hg4 HL)
                have C4 := Lib.hid (CA.out.turned ht4 S0.out.gp S0.out.gv)
                clear hg4 ht4
                go_wp2_with fail
                refine (rshift_any _ _ _ _ _ _ S4.out.R).mono ?_
                rintro e w5 ⟨rfl, v5, hg5, ht5⟩
                have S5 := Lib.hid (S4.out.turnR ht5 hg5 C4.out.lt)
                have C5 := Lib.hid (C4.out.turned ht5 S4.out.gu S4.out.gx)
                clear hg5 ht5
                have S6 : Hid (OffS w (w5.alloc (.cells #[.int .i64 sa, .int .i64 sb] 52)) p (p + 1) q v4 v5 ms ms) := S5.out.below ((Below.refl w5.heap.size w5).alloc (Nat.le_refl _) _)
                go_wp2_with fail
                refine (complex_any sa sb _).mono ?_
                rintro e w6 ⟨rfl, hb6⟩
                have S7 := Lib.hid (S6.out.below hb6)
                have C7 := Lib.hid ((C5.out.alloc (.cells #[.int .i64 sa, .int .i64 sb] 52)).below hb6)
                clear hb6
                go_wp2
                go_meet
                case rel => exact ⟨ms, by omega, ⟨_, _, S7.out⟩, C7.out⟩
            · have S0d : Hid (OffS w wa.drew p (p + 1) q v0 x0 ns ns) := S0.out.below (Below.refl _ _).drew
              have C0d : Hid (Cl wa.drew q [.int .i64 xk, .float .f64 xr, .float .f64 xi, .int .i64 xp] 47) := CA.out
              have c3d : wa.drew.cell? ⟨q, 3, none⟩ = some (.int .i64 xp) := c3
              have HLd : q < wa.drew.heap.size := HL
              by_cases e3 : xk = 3
              · subst e3
                by_cases hin : 0 ≤ xp ∧ xp < ns.length ∧ ∃ a b, Fl.part xr = some a ∧ Fl.part xi = some b
                · obtain ⟨hi0, hi1, a, b, hpa, hpb⟩ := hin
                  obtain ⟨j, rfl⟩ : ∃ j : Nat, xp = j := ⟨xp.toNat, by omega⟩
                  have PA := Lib.hid hpa
                  have PB := Lib.hid hpb
                  clear hpa hpb
                  have hj : j < ns.length := by omega
                  go_wp2_with fail
                  go_region_held3 (fun W => W.cell? ⟨q, 3, none⟩ = some (.int .i64 (j : Int))) (first | assumption | exact c3) (first
                    | (go_at_call 16; refine (set_any _ _ _ _ _ _ _ a b _ S0d.out.G hj PA.out PB.out).mono ?_; rintro e w4 ⟨rfl, v4, hg4, ht4⟩; have S4 := Lib.hid (S0d.out.turnG ht4 hg4 HLd); have C4 := Lib.hid (C0d.out.turned ht4 S0d.out.gp S0d.out.gv); have c34 : w4.cell? ⟨q, 3, none⟩ = some (.int .i64 (j : Int)) := C4.out.cell 3; clear hg4 ht4)
                    | (go_at_call 23; refine (rset_any _ _ _ _ _ _ _ a b _ S4.out.R hj PA.out PB.out).mono ?_; rintro e w5 ⟨rfl, v5, hg5, ht5⟩; have S5 := Lib.hid (S4.out.turnR ht5 hg5 C4.out.lt); have C5 := Lib.hid (C4.out.turned ht5 S4.out.gu S4.out.gx); have c35 : w5.cell? ⟨q, 3, none⟩ = some (.int .i64 (j : Int)) := C5.out.cell 3; clear hg5 ht5))
                  go_wp2
                  go_meet
                  case rel => exact ⟨ns.set j (a, b), by rw [List.length_set]; omega, ⟨_, _, S5.out⟩, C5.out⟩
                · have HN : Hid (xp < 0 ∨ (ns.length : Int) ≤ xp ∨ Fl.part xr = none ∨ Fl.part xi = none) := by
                    rw [Hid]
                    rcases some_or_none xr xi with h | h
                    · by_cases h0 : xp < 0
                      · exact .inl h0
                      · by_cases h1 : (ns.length : Int) ≤ xp
                        · exact .inr (.inl h1)
                        · exact absurd ⟨by omega, by omega, h⟩ hin
                    · exact .inr (.inr h)
                  clear hin
                  go_wp2_with fail
                  go_region_held3 (fun W => W.cell? ⟨q, 3, none⟩ = some (.int .i64 xp)) (first | assumption | exact c3) (first
                    | (go_at_call 16; refine (set_no _ _ _ _ _ _ _ _ S0d.out.G HN.out).mono ?_; rintro e w4 ⟨rfl, rfl⟩)
                    | (go_at_call 23; refine (rset_no _ _ _ _ _ _ _ _ S0d.out.R HN.out).mono ?_; rintro e w5 ⟨rfl, hb5⟩; have S5 := Lib.hid (S0d.out.below hb5); have C5 := Lib.hid (C0d.out.below hb5); have c35 : w5.cell? ⟨q, 3, none⟩ = some (.int .i64 xp) := C5.out.cell 3; clear hb5))
                  go_wp2
                  go_meet
                  case rel => exact ⟨ns, by omega, ⟨_, _, S5.out⟩, C5.out⟩
              · by_cases e4 : xk = 4
                · subst e4
                  go_wp2_with fail
                  go_region_held3 (fun W => W.cell? ⟨q, 3, none⟩ = some (.int .i64 xp)) (first | assumption | exact c3) (first
                    | (go_at_call 11; refine ((over_any _ _ _ _ _ _ S0d.out.G).mono (fun _ _ h => drewN_below h)).mono ?_; rintro e w4 ⟨rfl, hb4⟩; have S4 := Lib.hid (S0d.out.below hb4); have C4 := Lib.hid (C0d.out.below hb4); clear hb4; have c34 : w4.cell? ⟨q, 3, none⟩ = some (.int .i64 xp) := C4.out.cell 3)
                    | (go_at_call 24; refine (rover_any _ _ _ _ _ _ S4.out.R hxo).mono ?_; rintro e w5 ⟨rfl, hb5⟩; have S5 := Lib.hid (S4.out.below hb5); have C5 := Lib.hid (C4.out.below hb5); have c35 : w5.cell? ⟨q, 3, none⟩ = some (.int .i64 xp) := C5.out.cell 3; clear hb5))
                  go_wp2
                  go_meet
                  case rel => exact ⟨ns, by omega, ⟨_, _, S5.out⟩, C5.out⟩
                · have f1 : (xk == 1) = false := by rw [beq_eq_false_iff_ne]; exact e1
                  have f2 : (xk == 2) = false := by rw [beq_eq_false_iff_ne]; exact e2
                  have f3 : (xk == 3) = false := by rw [beq_eq_false_iff_ne]; exact e3
                  have f4 : (xk == 4) = false := by rw [beq_eq_false_iff_ne]; exact e4
                  go_wp2
                  go_meet
                  case rel => exact ⟨ns, by omega, ⟨_, _, S0.out⟩, CA.out⟩
        case rest =>
          obtain ⟨ms, hms, hoff, hca⟩ := hcut
          have CB := Lib.hid hca
          obtain ⟨vm, xm, hoff⟩ := hoff
          have SM := Lib.hid hoff
          clear hoff hca O0 CA c0 c1 c2 c3
          go_wp2_with fail
          refine (from_any xr xi _).mono ?_
          rintro e w4 ⟨⟨a, b, rfl, hab⟩, hb4⟩
          have HAB := Lib.hid hab
          have S4 := Lib.hid (SM.out.below hb4)
          have C4 := Lib.hid (CB.out.below hb4)
          clear hab hb4 SM CB
          have S5 : Hid (OffS w (w4.alloc (.cells #[.int .i64 a, .int .i64 b] 52)) p (p + 1) q vm xm ms ms) := S4.out.below ((Below.refl w4.heap.size w4).alloc (Nat.le_refl _) _)
          have C5 : Hid (Cl (w4.alloc (.cells #[.int .i64 a, .int .i64 b] 52)) q [.int .i64 xk, .float .f64 xr, .float .f64 xi, .int .i64 xp] 47) := C4.out.alloc _
          have D5 : Hid (Cl (w4.alloc (.cells #[.int .i64 a, .int .i64 b] 52)) w4.heap.size [.int .i64 a, .int .i64 b] 52) := Cl.new _ _ _
          clear S4 C4
          have HPT : Hid (∃ n m : Nat, ((((Fl.part xr).isSome && (Fl.part xi).isSome) = true ∧ n = a ∧ m = b) ∨ (((Fl.part xr).isSome && (Fl.part xi).isSome) = false ∧ n = 0 ∧ m = 0)) ∧ ∀ W : World, Calls Try.prog 13 #[.complex .f64 xr xi] W fun e w' => e = .returned (.tuple #[.int .i64 n, .int .i64 m]) ∧ W = w') := by
            rcases some_or_none xr xi with ⟨n, m, h1, h2⟩ | h
            · obtain ⟨e1, e2⟩ := HAB.out n m h1 h2
              exact ⟨n, m, .inl ⟨by rw [h1, h2]; rfl, e1.symm, e2.symm⟩, fun W => parts_any xr xi n m h1 h2 W⟩
            · refine ⟨0, 0, .inr ⟨?_, rfl, rfl⟩, fun W => parts_none xr xi h W⟩
              rcases h with h | h <;> simp [h]
          obtain ⟨n, m, hnm, hparts⟩ := HPT.out
          have HPA := Lib.hid hparts
          clear HPT hparts HAB
          generalize ((Fl.part xr).isSome && (Fl.part xi).isSome) = r at *
          go_upto_region 26 with (fail)
          generalize w4.alloc (.cells #[.int .i64 a, .int .i64 b] 52) = w5 at *
          generalize w4.heap.size = t at *
          have d0 : w5.cell? ⟨t, 0, none⟩ = some (.int .i64 a) := D5.out.cell 0
          have d1 : w5.cell? ⟨t, 1, none⟩ = some (.int .i64 b) := D5.out.cell 1
          go_wp2_with fail
          refine (HPA.out _).mono ?_
          rintro e w6 ⟨rfl, rfl⟩
          clear HPA
          go_upto_region 27 with (fail)
          go_cut [130] (fun s130 wx => s130 = .bool false ∧ wx = w5)
          case first =>
            rcases hnm with ⟨rfl, rfl, rfl⟩ | ⟨rfl, rfl, rfl⟩
            · go_wp2
              go_meet
              case rel => exact ⟨rfl, rfl⟩
            · go_wp2
              go_meet
              case rel => exact ⟨rfl, rfl⟩
          case rest =>
            obtain ⟨rfl, rfl⟩ := hcut
            clear hnm d0 d1 D5
            have c3 : wc.cell? ⟨q, 3, none⟩ = some (.int .i64 xp) := C5.out.cell 3
            have g0 := S5.out.G.cell
            have r0 := S5.out.R.cell
            obtain ⟨hsz, hl4⟩ : Sizes ms ∧ ms.length ≤ 4096 := ⟨S5.out.G.2.2.2.2.1, S5.out.G.2.2.2.2.2⟩
            have HS := Lib.hid S5.out
            have q1 := eq_cx (sA ms, sB ms) (sums_lt hsz hl4)
            have q2 := eq_cx (sA (ms.take xp.toNat), sB (ms.take xp.toNat)) (sums_lt (hsz.take _) (by rw [List.length_take]; omega))
            have I1 := Lib.hid (below_class (w := wc) fun W hW => (len_any _ _ _ _ W (HS.out.below hW).G).mono (fun e w' h => (⟨h.1, h.2 ▸ Below.refl _ _⟩ : e = .returned (.int .i64 ms.length) ∧ Below W.heap.size W w')))
            have I2 := Lib.hid (below_class (w := wc) fun W hW => (sumRow_any _ _ _ _ W (HS.out.below hW).G).mono (fun e w' h => drewN_below h))
            have I3 := Lib.hid (below_class (w := wc) fun W hW => rsum_any _ _ _ _ W (HS.out.below hW).R)
            have I4 := Lib.hid (below_class (w := wc) fun W hW => complex_any (sA ms) (sB ms) W)
            have I5 := Lib.hid (below_class (w := wc) fun W hW => (ahead_any _ _ _ _ xp W (HS.out.below hW).G).mono (fun e w' h => drewN_below h))
            have I6 := Lib.hid (below_class (w := wc) fun W hW => rahead_any _ _ _ _ xp W (HS.out.below hW).R)
            have I7 := Lib.hid (below_class (w := wc) fun W hW => complex_any (sA (ms.take xp.toNat)) (sB (ms.take xp.toNat)) W)
            obtain ⟨ax, capx, hvx, _, _⟩ := HS.out.R.2.2.1.form
            have m3 := fun x : BelowOf wc => x.cell c3
            have mr := fun x : BelowOf wc => x.cell r0
            rw [hvx] at mr
            clear hsz hl4 hvx
            generalize sA (ms.take xp.toNat) = xa at *
            generalize sB (ms.take xp.toNat) = xb at *
            generalize sA ms = ya at *
            generalize sB ms = yb at *
            have hll : (decide ((ms.length : Int) = (ms.length : Int))) = true := by simp
            go_wp2_with fail
            refine wp_region_below (by kernel_rfl) (by kernel_rfl) ?_
            repeat (go_big_quiet_step (fail))
            go_big_quiet_step ((exact I1.out _))
            repeat (go_big_quiet_step (fail))
            go_big_quiet_step ((exact I2.out _))
            repeat (go_big_quiet_step (fail))
            go_big_quiet_step ((exact I3.out _))
            repeat (go_big_quiet_step (fail))
            go_big_quiet_step ((exact I4.out _))
            repeat (go_big_quiet_step (fail))
            go_big_quiet_step ((exact I5.out _))
            repeat (go_big_quiet_step (fail))
            go_big_quiet_step ((exact I6.out _))
            repeat (go_big_quiet_step (fail))
            go_big_quiet_step ((exact I7.out _))
            repeat (go_big_quiet_step (fail))
            refine wpQuiet_nil ?_
            intro w9 hC9
            obtain ⟨⟨w9, hb9⟩, rfl⟩ := hC9
            have S9 := Lib.hid (HS.out.below hb9)
            clear hb9 I1 I2 I3 I4 I5 I6 I7 m3 mr q1 q2
            go_wp2
            go_roundw
            case rel =>
              exact ⟨k + 1, ms, by go_num, by omega, by omega, by omega, Off.two ⟨_, _, S9.out⟩⟩
            case measure => simp [intOf]; omega
      · obtain ⟨_, _, _, _, _, hb⟩ := T.out
        have BR := Lib.hid hb
        clear hb
        go_wp2
        go_ret
        exact ⟨rfl, BR.out⟩
    · obtain ⟨_, _, _, _, _, hb⟩ := T.out
      have BR := Lib.hid hb
      clear hb
      obtain rfl : k = l.length := by omega
      go_wp2
      go_ret
      exact ⟨rfl, BR.out⟩

end Go.Proofs.Ytadioaeeobmdgaa
