/-
  The document's useless, walked.
  Conditions: times that can be.
-/
import Derived.Test.YtccndbifnbmddaaXl
import Derived.Test.YtccndbifnbmddaaXf
import Derived.Deep.DeepCutAuto
import Derived.Deep.CutBlock
set_option linter.unusedVariables false
set_option linter.unusedSimpArgs false
namespace Go.Proofs.Ytccndbifnbmddaa
open Go.RowKit

/-- A record that makes another one useless. -/
def mtc (xo : Int) (xk : List UInt8) (high : Int) (y : Cr.Rec) : Bool := decide (y.key = xk) && (decide (xo < y.off) && decide (y.off < high))
theorem use_yes {R : List Cr.Rec} {high time now hor : Int} {x y : Cr.Rec} (h1 : x.key ≠ []) (h2 : x.off < high) (hy : y ∈ R) (hm : mtc x.off x.key high y = true) : useR R high time now hor x = true := by
  unfold useR
  rw [decide_eq_true h1, decide_eq_true h2, Bool.true_and, Bool.true_and, Bool.or_eq_true]
  exact .inr (List.any_eq_true.2 ⟨y, hy, hm⟩)
theorem use_no {R : List Cr.Rec} {high time now hor : Int} {x : Cr.Rec} (hg : (x.gone && decide (time ≤ now - hor)) = false) (hm : ∀ y ∈ R, mtc x.off x.key high y = false) : useR R high time now hor x = false := by
  have : R.any (fun y => mtc x.off x.key high y) = false := by
    rw [List.any_eq_false]
    intro y hy
    rw [hm y hy]
    exact Bool.false_ne_true
  unfold useR
  unfold mtc at this
  rw [hg, this]
  simp
theorem recsOf_take {l : List Cr.Batch} {i : Nat} {b : Cr.Batch} (h : l[i]? = some b) : recsOf (l.take (i + 1)) = recsOf (l.take i) ++ b.recs := by
  obtain ⟨hk, rfl⟩ := List.getElem?_eq_some_iff.1 h
  rw [recsOf, List.take_succ_eq_append_getElem hk, List.flatMap_append]
  simp [recsOf]
theorem mtc_take {xo : Int} {xk : List UInt8} {high : Int} {R l : List Cr.Rec} {j : Nat} {y : Cr.Rec} (h : ∀ z ∈ R ++ l.take j, mtc xo xk high z = false) (hy : l[j]? = some y) (hm : mtc xo xk high y = false) : ∀ z ∈ R ++ l.take (j + 1), mtc xo xk high z = false := by
  obtain ⟨hk, rfl⟩ := List.getElem?_eq_some_iff.1 hy
  rw [List.take_succ_eq_append_getElem hk, ← List.append_assoc]
  intro z hz
  rcases List.mem_append.1 hz with h1 | h1
  · exact h z h1
  · rw [List.mem_singleton.1 h1]; exact hm
set_option maxRecDepth 20000 in
set_option maxHeartbeats 6400000 in
theorem refuse_any (l : List Cr.Batch) (b : Cr.Batch) (ab : Option Addr) (nb cb : Nat) (x : Cr.Rec) (high now hor : Int) (v : Value) (w : World) (h : Bats w v l) (hl : l.length ≤ maxLen) (hrl : ∀ b ∈ l, b.recs.length ≤ maxLen) (hkl : ∀ b ∈ l, ∀ y ∈ b.recs, y.key.length ≤ maxLen) (hx : x.key.length ≤ maxLen) (hn : isT now = true) (hh : isT hor = true) :
    Calls Try.prog 29 #[v, .agg #[.int .i64 b.base, .int .i64 b.count, .int .i64 b.prod, .int .i64 b.seq, .int .i64 b.time, .slice ab nb cb], recV x, .int .i64 high, .int .i64 now, .int .i64 hor] w fun e w' => e = .returned (.bool (useR (recsOf l) high b.time now hor x)) ∧ Below w.heap.size w w' := by
  have HB := Lib.hid h
  have HRL := Lib.hid hrl
  have HKL := Lib.hid hkl
  obtain ⟨a, cap, rfl⟩ := h.form
  obtain ⟨base, count, prod, seq, time, brecs⟩ := b
  obtain ⟨xo, xk, xv, xg⟩ := x
  dsimp only at hx ⊢
  unfold recV
  unfold maxLen at hl hx
  dsimp only
  simp only [isT, Bool.and_eq_true, decide_eq_true_eq] at hn hh
  obtain ⟨hn1, hn2⟩ := hn
  obtain ⟨hh1, hh2⟩ := hh
  have HY := Lib.hid (fun y => use_yes (R := recsOf l) (high := high) (time := time) (now := now) (hor := hor) (x := ⟨xo, xk, xv, xg⟩) (y := y))
  have HNO := Lib.hid (use_no (R := recsOf l) (high := high) (time := time) (now := now) (hor := hor) (x := ⟨xo, xk, xv, xg⟩))
  have HE : Hid (xk = [] → useR (recsOf l) high time now hor ⟨xo, xk, xv, xg⟩ = false) := fun e => by simp [useR, e]
  have HO : Hid (high ≤ xo → useR (recsOf l) high time now hor ⟨xo, xk, xv, xg⟩ = false) := fun e => by
    have : ¬ xo < high := by omega
    simp [useR, this]
  have HG : Hid (xk ≠ [] → xo < high → xg = true → time ≤ now - hor → useR (recsOf l) high time now hor ⟨xo, xk, xv, xg⟩ = true) := fun e1 e2 e3 e4 => by simp [useR, e1, e2, e3, e4]
  generalize useR (recsOf l) high time now hor ⟨xo, xk, xv, xg⟩ = r at *
  clear h hrl hkl
  have C7 : Hid (Cl ((w.alloc (.cells #[.int .i64 base, .int .i64 count, .int .i64 prod, .int .i64 seq, .int .i64 time, .slice ab nb cb] 42)).alloc (.cells #[.int .i64 xo, .string ⟨xk.toArray⟩, .string ⟨xv.toArray⟩, .bool xg] 44)) w.heap.size [.int .i64 base, .int .i64 count, .int .i64 prod, .int .i64 seq, .int .i64 time, .slice ab nb cb] 42) := (Cl.new w _ _).alloc _
  have C8 : Hid (Cl ((w.alloc (.cells #[.int .i64 base, .int .i64 count, .int .i64 prod, .int .i64 seq, .int .i64 time, .slice ab nb cb] 42)).alloc (.cells #[.int .i64 xo, .string ⟨xk.toArray⟩, .string ⟨xv.toArray⟩, .bool xg] 44)) (w.heap.size + 1) [.int .i64 xo, .string ⟨xk.toArray⟩, .string ⟨xv.toArray⟩, .bool xg] 44) := by
    have := Cl.new (w.alloc (.cells #[.int .i64 base, .int .i64 count, .int .i64 prod, .int .i64 seq, .int .i64 time, .slice ab nb cb] 42)) [.int .i64 xo, .string ⟨xk.toArray⟩, .string ⟨xv.toArray⟩, .bool xg] 44
    rwa [World.size_alloc] at this
  have B1 : Hid (Below w.heap.size w ((w.alloc (.cells #[.int .i64 base, .int .i64 count, .int .i64 prod, .int .i64 seq, .int .i64 time, .slice ab nb cb] 42)).alloc (.cells #[.int .i64 xo, .string ⟨xk.toArray⟩, .string ⟨xv.toArray⟩, .bool xg] 44))) := ((Below.refl _ _).alloc (Nat.le_refl _) _).alloc (by simp) _
  go_enter Try.func29, Try.ntmps29
  go_upto_region 1 with (fail)
  generalize (w.alloc (.cells #[.int .i64 base, .int .i64 count, .int .i64 prod, .int .i64 seq, .int .i64 time, .slice ab nb cb] 42)).alloc (.cells #[.int .i64 xo, .string ⟨xk.toArray⟩, .string ⟨xv.toArray⟩, .bool xg] 44) = w1 at *
  generalize hp1 : w.heap.size + 1 = p1 at C8 ⊢
  clear hp1
  generalize w.heap.size = p at C7 ⊢
  have t4 := C7.out.cell 4
  have x0 := C8.out.cell 0
  have x1 := C8.out.cell 1
  have x3 := C8.out.cell 3
  simp only [List.getElem?_cons_zero, List.getElem?_cons_succ] at t4 x0 x1 x3
  cases xk with
  | nil =>
    have HX := Lib.hid (HE.out rfl)
    go_wp2
    go_ret
    exact ⟨by rw [HX.out]; rfl, B1.out⟩
  | cons c cs =>
    simp only [List.length_cons] at hx
    by_cases hxo : xo < high
    case neg =>
      have HX := Lib.hid (HO.out (by omega))
      go_wp2
      go_ret
      exact ⟨by rw [HX.out]; rfl, B1.out⟩
    have HG2 := Lib.hid (HG.out (by simp) hxo)
    have hgt : (xg = true ∧ time ≤ now - hor) ∨ (xg = true ∧ ¬ time ≤ now - hor) ∨ xg = false := by
      cases xg
      · exact .inr (.inr rfl)
      · by_cases h : time ≤ now - hor
        · exact .inl ⟨rfl, h⟩
        · exact .inr (.inl ⟨rfl, h⟩)
    have HN2 : Hid (¬ (xg = true ∧ time ≤ now - hor) → (∀ y ∈ recsOf l, mtc xo (c :: cs) high y = false) → r = false) := fun h1 h2 => HNO.out (by
      cases hxg : xg
      · rfl
      · have : ¬ time ≤ now - hor := fun h => h1 ⟨hxg, h⟩
        simp [this]) h2
    have HY2 : Hid (∀ y, y ∈ recsOf l → mtc xo (c :: cs) high y = true → r = true) := fun y h1 h2 => HY.out y (by simp) hxo h1 h2
    clear HE HO HG HY HNO
    have hmid : (¬ (xg = true ∧ time ≤ now - hor)) ∨ (xg = true ∧ time ≤ now - hor) := by
      by_cases h : xg = true ∧ time ≤ now - hor
      · exact .inr h
      · exact .inl h
    rcases hmid with hno | ⟨rfl, hti⟩
    case inr =>
      have HX := Lib.hid (HG2.out rfl hti)
      go_wp2
      go_ret
      exact ⟨by rw [HX.out]; rfl, B1.out⟩
    have HN3 := Lib.hid (HN2.out hno)
    clear HG2 HN2
    go_upto_region 3 with (fail)
    go_cut [34] (fun s34 wz => s34 = .bool false ∧ wz = w1)
    case first =>
      rcases hgt with h1 | ⟨rfl, hti⟩ | rfl
      · exact absurd h1 hno
      · clear hno
        go_wp2
        go_meet
        case rel => exact ⟨rfl, rfl⟩
      · clear hno
        go_wp2
        go_meet
        case rel => exact ⟨rfl, rfl⟩
    case rest =>
      obtain ⟨rfl, rfl⟩ := hcut
      clear hno hgt t4 x0 x1 x3 C7
      go_wp2
      have B11 : Hid (Below wc.heap.size wc wc) := Below.refl _ _
      go_loopw [13] (fun ti wr => ∃ k : Nat, ti = .int .i64 k ∧ k ≤ l.length ∧ Hid (∀ z ∈ recsOf (l.take k), mtc xo (c :: cs) high z = false) ∧ Below wc.heap.size wc wr) (fun ti _ => l.length - (intOf ti).toNat)
      case atStart => exact ⟨0, rfl, by omega, fun z hz => (by simp [recsOf] at hz), B11.out⟩
      case round =>
        obtain ⟨k, rfl, hk, HM, hb⟩ := hrel
        have BK := Lib.hid hb
        have BKW := Lib.hid (bt B1.out hb)
        clear hb B11
        by_cases hkl : k < l.length
        · obtain ⟨b2, hb2⟩ : ∃ b2, l[k]? = some b2 := ⟨l[k], by simp [hkl]⟩
          have HRT := Lib.hid (recsOf_take hb2)
          have hbm := List.mem_of_getElem? hb2
          have hbl := HRL.out b2 hbm
          have HKB := Lib.hid (HKL.out b2 hbm)
          have HMB : Hid (∀ y ∈ b2.recs, y ∈ recsOf l) := fun y hy => mem_recsOf.2 ⟨b2, hbm, hy⟩
          unfold maxLen at hbl
          have HM0 : Hid (∀ z ∈ recsOf (l.take k) ++ b2.recs.take 0, mtc xo (c :: cs) high z = false) := by
            have := HM.out
            simpa [Hid] using this
          go_wp2
          have HGE := Lib.hid (fun W (hW : Below w.heap.size w W) => HB.out.get hW hb2)
          clear hb2 hbm
          go_loopw [14] (fun tj wz => ∃ j : Nat, tj = .int .i64 j ∧ j ≤ b2.recs.length ∧ Hid (∀ z ∈ recsOf (l.take k) ++ b2.recs.take j, mtc xo (c :: cs) high z = false) ∧ Below wr.heap.size wr wz) (fun tj _ => b2.recs.length - (intOf tj).toNat)
          case atStart => exact ⟨0, rfl, by omega, HM0.out, Below.refl _ _⟩
          case round =>
            obtain ⟨j, rfl, hj, HMJ, hb⟩ := hrel
            have BJ := Lib.hid (bt BK.out hb)
            have BJW := Lib.hid (bt BKW.out hb)
            have BJR := Lib.hid hb
            clear hb HM0
            obtain ⟨g, off, cap2, rv, he, hg, p0, p1, p2, p3, p4, p5, hrec⟩ := HGE.out _ BJW.out
            injection he with e1 e2 e3
            subst e1 e3
            have HRV := Lib.hid hrec
            obtain ⟨ar, capr, rfl⟩ := hrec.form
            clear e2 hrec p0 p1 p2 p3 p4
            by_cases hjl : j < b2.recs.length
            · obtain ⟨y, hy⟩ : ∃ y, b2.recs[j]? = some y := ⟨b2.recs[j], by simp [hjl]⟩
              have hym0 := List.mem_of_getElem? hy
              have hky := HKB.out y hym0
              have hym := HMB.out y hym0
              have HYX := Lib.hid (HY2.out y hym)
              have HTK := Lib.hid (fun hm => mtc_take HMJ.out hy hm)
              obtain ⟨g2, off2, cap3, he, hg2, q0, q1, q2, q3⟩ := HRV.out.get BJW.out hy
              injection he with e1 e2 e3
              subst e1 e3
              clear e2 hy hym0 hym
              obtain ⟨yo, yk, yv, yg⟩ := y
              dsimp only at q0 q1 q2 q3 hky
              unfold maxLen at hky
              have C9 : Hid (Cl (wr.alloc (.cells #[.int .i64 yo, .string ⟨yk.toArray⟩, .string ⟨yv.toArray⟩, .bool yg] 44)) wr.heap.size [.int .i64 yo, .string ⟨yk.toArray⟩, .string ⟨yv.toArray⟩, .bool yg] 44) := Cl.new wr _ _
              have C8A := Lib.hid ((C8.out.below BJ.out).alloc (.cells #[.int .i64 yo, .string ⟨yk.toArray⟩, .string ⟨yv.toArray⟩, .bool yg] 44))
              have hba : Below wr.heap.size wr (wr.alloc (.cells #[.int .i64 yo, .string ⟨yk.toArray⟩, .string ⟨yv.toArray⟩, .bool yg] 44)) := (Below.refl _ _).alloc (Nat.le_refl _) _
              have B2R := Lib.hid (bt BJR.out hba)
              have B2W := Lib.hid (bt BJW.out hba)
              clear hba
              go_upto_region 12 with (fail)
              generalize wr.alloc (.cells #[.int .i64 yo, .string ⟨yk.toArray⟩, .string ⟨yv.toArray⟩, .bool yg] 44) = w2 at *
              generalize wr.heap.size = p9 at C9 ⊢
              clear q0 q1 q2 q3 p5 BJ BJR BJW
              have y0 := C9.out.cell 0
              have y1 := C9.out.cell 1
              have x0 := C8A.out.cell 0
              have x1 := C8A.out.cell 1
              simp only [List.getElem?_cons_zero, List.getElem?_cons_succ] at y0 y1 x0 x1
              by_cases h1 : yk = c :: cs
              case neg =>
                have hbeq : (yk == c :: cs) = false := by simp [h1]
                have HM2 := Lib.hid (HTK.out (by simp [mtc, h1]))
                clear h1
                go_wp2
                go_roundw
                case rel => exact ⟨j + 1, by go_num, by omega, HM2.out, B2R.out⟩
                case measure => simp [intOf]; omega
              have hbeq : (yk == c :: cs) = true := by simp [h1]
              by_cases h2 : xo < yo
              case neg =>
                have HM2 := Lib.hid (HTK.out (by simp [mtc, h2]))
                clear h1
                go_wp2
                go_roundw
                case rel => exact ⟨j + 1, by go_num, by omega, HM2.out, B2R.out⟩
                case measure => simp [intOf]; omega
              by_cases h3 : yo < high
              case neg =>
                have HM2 := Lib.hid (HTK.out (by simp [mtc, h3]))
                clear h1
                go_wp2
                go_roundw
                case rel => exact ⟨j + 1, by go_num, by omega, HM2.out, B2R.out⟩
                case measure => simp [intOf]; omega
              have HX := Lib.hid (HYX.out (by simp [mtc, h1, h2, h3]))
              clear h1
              go_wp2
              go_ret
              exact ⟨by rw [HX.out]; rfl, B2W.out⟩
            · obtain rfl : j = b2.recs.length := by omega
              have HM2 : Hid (∀ z ∈ recsOf (l.take (k + 1)), mtc xo (c :: cs) high z = false) := by
                have := HMJ.out
                rw [List.take_length] at this
                rw [HRT.out]
                exact this
              go_wp2
              go_roundw
              case rel => exact ⟨k + 1, by go_num, by omega, HM2.out, BJ.out⟩
              case measure => simp [intOf]; omega
        · obtain rfl : k = l.length := by omega
          have HX := Lib.hid (HN3.out (by have := HM.out; rw [List.take_length] at this; exact this))
          go_wp2
          go_ret
          exact ⟨by rw [HX.out]; rfl, BKW.out⟩

end Go.Proofs.Ytccndbifnbmddaa
