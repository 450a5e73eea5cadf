/-
  Wh / Qt: texts of one proof, one behind the other.
  Conditions: none of its own.
-/
import Derived.Test.YtjfpbeccpcbpcaaGreatDoorZaa
import Derived.Test.YtjfpbeccpcbpcaaGreatDoorZac
import Derived.Test.YtjfpbeccpcbpcaaGreatDoorZai
import Derived.Test.YtjfpbeccpcbpcaaGreatDoorZat
import Derived.Test.YtjfpbeccpcbpcaaGreatDoorZaw
import Derived.Deep.Cut
import Derived.Deep.CutBlock
import Derived.StillTail
import Derived.BigQuiet
set_option linter.unusedVariables false
set_option linter.unusedSimpArgs false
namespace Go.Proofs.YtjfpbeccpcbpcaaGreatDoor
open Go.RowKit
theorem intsN_cl {W : World} {g : Nat} {l : List Int} {t : TypeId} (C : Cl W g (l.map (Value.int .i64)) t) : Ints W (.slice (some ⟨g, 0, none⟩) l.length l.length) l := by
  refine ⟨_, _, rfl, fun i hi => ⟨g, 0, rfl, C.lt, ?_⟩⟩
  rw [Nat.zero_add, Cl.cell C i]
  simp [List.getD, hi]
theorem req1_any (x : Cr.Rec) (w : World) : Calls Tryz.prog 92 #[recV x] w fun e w' => e = .returned (.bool (!decide (x.off = 0))) ∧ Below w.heap.size w w' := by
  obtain ⟨x0, xk, xv, xg⟩ := x
  have HB0 : Hid (Below w.heap.size w (w.alloc (.cells #[.int .i64 x0, .string ⟨xk.toArray⟩, .string ⟨xv.toArray⟩, .bool xg] 107))) := (Below.refl _ _).alloc (Nat.le_refl _) _
  unfold recV
  dsimp only
  by_cases h : x0 = 0
  · subst h
    go_enter Tryz.func92, Tryz.ntmps92
    go_wp2
    go_ret
    exact ⟨rfl, HB0.out⟩
  · have hb : (x0 == 0) = false := beq_eq_false_iff_ne.2 h
    go_enter Tryz.func92, Tryz.ntmps92
    go_wp2
    go_ret
    exact ⟨by simp [h], HB0.out⟩
theorem place1_any (x : Int × Int) (w : World) : Calls Tryz.prog 94 #[.agg #[.int .i64 x.1, .int .i64 x.2]] w fun e w' => e = .returned (.bool (!Wi.lifeB x)) ∧ Below w.heap.size w w' := by
  obtain ⟨n, f⟩ := x
  dsimp only
  have CB : Hid (Cl (w.alloc (.cells #[.int .i64 n, .int .i64 f] 64)) w.heap.size [.int .i64 n, .int .i64 f] 64) := Cl.new w _ _
  have HB0 : Hid (Below w.heap.size w (w.alloc (.cells #[.int .i64 n, .int .i64 f] 64))) := (Below.refl _ _).alloc (Nat.le_refl _) _
  have H1 := Lib.hid (fun W => wwithin_any n 1 5 W)
  have H2 := Lib.hid (fun W => wwithin_any f 0 1073741824 W)
  have HE : Hid (Wi.lifeB (n, f) = (Wi.inB n 1 5 && Wi.inB f 0 1073741824)) := rfl
  rw [HE.out]
  generalize Wi.inB n 1 5 = b1 at *
  generalize Wi.inB f 0 1073741824 = b2 at *
  clear HE
  go_enter Tryz.func94, Tryz.ntmps94
  go_upto_region 1 with (fail)
  generalize w.alloc (.cells #[.int .i64 n, .int .i64 f] 64) = w1 at *
  have a0 := CB.out.cell 0
  have a1 := CB.out.cell 1
  simp only [List.getElem?_cons_zero, List.getElem?_cons_succ] at a0 a1
  generalize w.heap.size = pa at CB a0 a1 ⊢
  go_wp2_with fail
  refine (H1.out _).mono ?_
  rintro e w2 ⟨rfl, hw⟩
  subst hw
  cases b1 with
  | false =>
    go_wp2
    go_ret
    exact ⟨rfl, HB0.out⟩
  | true =>
    go_wp2_with fail
    refine (H2.out _).mono ?_
    rintro e w3 ⟨rfl, hw⟩
    subst hw
    cases b2 <;>
    · go_wp2
      go_ret
      exact ⟨rfl, HB0.out⟩
set_option maxHeartbeats 800000 in
theorem idxreq_any (l : List (Cr.Rec)) (hl : l.length ≤ maxLen) (rv : Value) (w : World) (h : Recs w rv l) :
    Calls Tryz.prog 129 #[rv, .func (.func 92) #[] #[]] w fun e w' => e = .returned (.int .i64 (idxP (fun x : Cr.Rec => !decide (x.off = 0)) 0 l)) ∧ Below w.heap.size w w' := by
  have HZ := Lib.hid h
  obtain ⟨a, cap, rfl⟩ := h.form
  unfold maxLen at hl
  clear h
  go_enter Tryz.func129, Tryz.ntmps129
  go_wp2
  go_loopw [8] (fun i wr => ∃ k : Nat, i = .int .i64 k ∧ k ≤ l.length ∧ idxP (fun x : Cr.Rec => !decide (x.off = 0)) 0 l = idxP (fun x : Cr.Rec => !decide (x.off = 0)) k (l.drop k) ∧ Below w.heap.size w wr) (fun i _ => l.length - (intOf i).toNat)
  case atStart => exact ⟨0, rfl, by omega, rfl, Below.refl _ _⟩
  case round =>
    obtain ⟨k, rfl, hk, hr, hb⟩ := hrel
    have HR2 := Lib.hid hr
    have HB := Lib.hid hb
    clear hr hb
    by_cases hlt : k < l.length
    · obtain ⟨x, hx⟩ : ∃ x, l[k]? = some x := ⟨l[k], by simp [hlt]⟩
      have HN := Lib.hid (fun w => req1_any x w)
      have HS := Lib.hid (idxP_step (p := fun x : Cr.Rec => !decide (x.off = 0)) hx)
      obtain ⟨g, off, cap', he, hg, p0, p1, p2, p3⟩ := HZ.out.get HB.out hx
      injection he with he1 he2 he3
      subst he1 he3
      obtain ⟨x0, xk, xv, xg⟩ := x
      unfold recV at HN
      dsimp only at *
      clear he2
      cases hb : (!decide (x0 = 0)) with
      | false =>
        have HX : Hid (idxP (fun x : Cr.Rec => !decide (x.off = 0)) 0 l = idxP (fun x : Cr.Rec => !decide (x.off = 0)) (k + 1) (l.drop (k + 1))) := by rw [Hid, HR2.out, HS.out, hb]; rfl
        rw [hb] at HN
        clear HS hb
        go_wp2_with fail
        refine (HN.out _).mono ?_
        rintro e w5 ⟨rfl, hb5⟩
        have B5 := Lib.hid (bt HB.out hb5)
        clear hb5
        go_wp2
        go_roundw
        case rel => exact ⟨k + 1, by go_num, by omega, HX.out, B5.out⟩
        case measure => simp [intOf]; omega
      | true =>
        have HX : Hid (idxP (fun x : Cr.Rec => !decide (x.off = 0)) 0 l = k) := by rw [Hid, HR2.out, HS.out, hb]; rfl
        rw [hb] at HN
        clear HS hb
        go_wp2_with fail
        refine (HN.out _).mono ?_
        rintro e w5 ⟨rfl, hb5⟩
        have B5 := Lib.hid (bt HB.out hb5)
        clear hb5
        go_wp2
        go_ret
        exact ⟨by rw [HX.out]; rfl, B5.out⟩
    · obtain rfl : k = l.length := by omega
      have HX : Hid (idxP (fun x : Cr.Rec => !decide (x.off = 0)) 0 l = -1) := by rw [Hid, HR2.out, List.drop_length]; rfl
      go_wp2
      go_ret
      exact ⟨by rw [HX.out]; rfl, HB.out⟩
theorem containsreq_any (l : List (Cr.Rec)) (hl : l.length ≤ maxLen) (rv : Value) (w : World) (h : Recs w rv l) :
    Calls Tryz.prog 91 #[rv, .func (.func 92) #[] #[]] w fun e w' => e = .returned (.bool (l.any fun x : Cr.Rec => !decide (x.off = 0))) ∧ Below w.heap.size w w' := by
  have HI := Lib.hid (idxreq_any l hl rv w h)
  have H1 := Lib.hid (idxP_any (fun x : Cr.Rec => !decide (x.off = 0)) l 0)
  clear h
  generalize idxP (fun x : Cr.Rec => !decide (x.off = 0)) 0 l = n at *
  go_enter Tryz.func91, Tryz.ntmps91
  go_wp2_with fail
  refine HI.out.mono ?_
  rintro e w1 ⟨rfl, hb⟩
  have HB := Lib.hid hb
  clear hb
  go_wp2
  go_ret
  refine ⟨?_, HB.out⟩
  rw [← H1.out]
  rfl
theorem Rw.getL {w wr : World} {v : Value} {l : List (Int × Int)} (h : Rw 2 lifeC w v l) (hb : Below w.heap.size w wr) {k : Nat} {x : Int × Int} (hx : l[k]? = some x) :
    ∃ g off cap, v = .slice (some ⟨g, off, none⟩) l.length cap ∧ g < w.heap.size ∧ wr.cell? ⟨g, off + k * 2, none⟩ = some (.int .i64 x.1) ∧ wr.cell? ⟨g, off + k * 2 + 1, none⟩ = some (.int .i64 x.2) := by
  obtain ⟨a, cap, rfl, hc⟩ := h
  obtain ⟨g, off, rfl, hg, hr⟩ := hc k x hx
  exact ⟨g, off, cap, rfl, hg, (hb.cell (p := ⟨g, off + k * 2, none⟩) hg).trans (hr 0 _ rfl), (hb.cell (p := ⟨g, off + k * 2 + 1, none⟩) hg).trans (hr 1 _ rfl)⟩
set_option maxHeartbeats 800000 in
theorem idxplace_any (l : List (Int × Int)) (hl : l.length ≤ maxLen) (rv : Value) (w : World) (h : Rw 2 lifeC w rv l) :
    Calls Tryz.prog 131 #[rv, .func (.func 94) #[] #[]] w fun e w' => e = .returned (.int .i64 (idxP (fun x : Int × Int => !Wi.lifeB x) 0 l)) ∧ Below w.heap.size w w' := by
  have HZ := Lib.hid h
  obtain ⟨a, cap, rfl⟩ := h.form
  unfold maxLen at hl
  clear h
  go_enter Tryz.func131, Tryz.ntmps131
  go_wp2
  go_loopw [8] (fun i wr => ∃ k : Nat, i = .int .i64 k ∧ k ≤ l.length ∧ idxP (fun x : Int × Int => !Wi.lifeB x) 0 l = idxP (fun x : Int × Int => !Wi.lifeB x) k (l.drop k) ∧ Below w.heap.size w wr) (fun i _ => l.length - (intOf i).toNat)
  case atStart => exact ⟨0, rfl, by omega, rfl, Below.refl _ _⟩
  case round =>
    obtain ⟨k, rfl, hk, hr, hb⟩ := hrel
    have HR2 := Lib.hid hr
    have HB := Lib.hid hb
    clear hr hb
    by_cases hlt : k < l.length
    · obtain ⟨x, hx⟩ : ∃ x, l[k]? = some x := ⟨l[k], by simp [hlt]⟩
      have HN := Lib.hid (fun w => place1_any x w)
      have HS := Lib.hid (idxP_step (p := fun x : Int × Int => !Wi.lifeB x) hx)
      obtain ⟨g, off, cap', he, hg, p0, p1⟩ := HZ.out.getL HB.out hx
      injection he with he1 he2 he3
      subst he1 he3
      obtain ⟨x0, x1⟩ := x
      dsimp only at *
      clear he2
      cases hb : (!Wi.lifeB (x0, x1)) with
      | false =>
        have HX : Hid (idxP (fun x : Int × Int => !Wi.lifeB x) 0 l = idxP (fun x : Int × Int => !Wi.lifeB x) (k + 1) (l.drop (k + 1))) := by rw [Hid, HR2.out, HS.out, hb]; rfl
        rw [hb] at HN
        clear HS hb
        go_wp2_with fail
        refine (HN.out _).mono ?_
        rintro e w5 ⟨rfl, hb5⟩
        have B5 := Lib.hid (bt HB.out hb5)
        clear hb5
        go_wp2
        go_roundw
        case rel => exact ⟨k + 1, by go_num, by omega, HX.out, B5.out⟩
        case measure => simp [intOf]; omega
      | true =>
        have HX : Hid (idxP (fun x : Int × Int => !Wi.lifeB x) 0 l = k) := by rw [Hid, HR2.out, HS.out, hb]; rfl
        rw [hb] at HN
        clear HS hb
        go_wp2_with fail
        refine (HN.out _).mono ?_
        rintro e w5 ⟨rfl, hb5⟩
        have B5 := Lib.hid (bt HB.out hb5)
        clear hb5
        go_wp2
        go_ret
        exact ⟨by rw [HX.out]; rfl, B5.out⟩
    · obtain rfl : k = l.length := by omega
      have HX : Hid (idxP (fun x : Int × Int => !Wi.lifeB x) 0 l = -1) := by rw [Hid, HR2.out, List.drop_length]; rfl
      go_wp2
      go_ret
      exact ⟨by rw [HX.out]; rfl, HB.out⟩
theorem containsplace_any (l : List (Int × Int)) (hl : l.length ≤ maxLen) (rv : Value) (w : World) (h : Rw 2 lifeC w rv l) :
    Calls Tryz.prog 95 #[rv, .func (.func 94) #[] #[]] w fun e w' => e = .returned (.bool (l.any fun x : Int × Int => !Wi.lifeB x)) ∧ Below w.heap.size w w' := by
  have HI := Lib.hid (idxplace_any l hl rv w h)
  have H1 := Lib.hid (idxP_any (fun x : Int × Int => !Wi.lifeB x) l 0)
  clear h
  generalize idxP (fun x : Int × Int => !Wi.lifeB x) 0 l = n at *
  go_enter Tryz.func95, Tryz.ntmps95
  go_wp2_with fail
  refine HI.out.mono ?_
  rintro e w1 ⟨rfl, hb⟩
  have HB := Lib.hid hb
  clear hb
  go_wp2
  go_ret
  refine ⟨?_, HB.out⟩
  rw [← H1.out]
  rfl
theorem any_not_all {α : Type} (p : α → Bool) (l : List α) : (l.any fun x => !p x) = !l.all p := by
  induction l with
  | nil => rfl
  | cons x r ih => rw [List.any_cons, List.all_cons, ih]; cases p x <;> simp
set_option maxRecDepth 20000 in
set_option maxHeartbeats 6400000 in
theorem isReq_any (q : Wi.Req) (rv : Value) (w : World) (h : Recs w rv q.recs) (ok : ReqOk q) :
    Calls Tryz.prog 35 #[.agg (wreqC q rv).toArray] w fun e w' => e = .returned (.bool (Wi.reqB q)) ∧ Below w.heap.size w w' := by
  obtain ⟨_, hg, hm, hrl, hro⟩ := ok
  have HZ := Lib.hid h
  have HRO := Lib.hid hro
  obtain ⟨ra, rc, hrv⟩ := h.form
  subst hrv
  obtain ⟨q_client, q_n, q_kind, q_part, q_seq, q_off, q_max, q_gen, q_group, q_member, q_recs⟩ := q
  unfold wreqC
  dsimp only at *
  unfold maxLen at hg hm hrl
  have W1 := Lib.hid (fun W => wwithin_any q_client 1 4 W)
  have W2 := Lib.hid (fun W => wwithin_any q_kind 1 8 W)
  have W3 : Hid (∀ (w0 : World) (W : World), Cl W w0.heap.size ([q_n, q_part, q_seq, q_max, q_gen].map (Value.int .i64)) 3 → Calls Tryz.prog 33 #[.int .i64 0, .int .i64 1099511627776, .slice (some ⟨w0.heap.size, 0, none⟩) 5 5] W fun e w' => e = .returned (.bool (Wi.areB 0 1099511627776 [q_n, q_part, q_seq, q_max, q_gen])) ∧ Below W.heap.size W w') :=
    fun w0 W hc => are_any [q_n, q_part, q_seq, q_max, q_gen] (by simp [maxLen]) _ 0 1099511627776 W (intsN_cl hc)
  have W4 := Lib.hid (fun W => wwithin_any q_off (-1099511627776) 1099511627776 W)
  have CT := Lib.hid (fun (W : World) (hW : Below w.heap.size w W) => containsreq_any q_recs hrl _ W (HZ.out.kept hW))
  have FT := Lib.hid (fun (W : World) (hW : Below w.heap.size w W) => fits_any q_recs HRO.out hrl _ W (HZ.out.kept hW))
  have HE : Hid (Wi.reqB ⟨q_client, q_n, q_kind, q_part, q_seq, q_off, q_max, q_gen, q_group, q_member, q_recs⟩ = ((Wi.inB q_client 1 4 && (Wi.inB q_kind 1 8 && (Wi.areB 0 1099511627776 [q_n, q_part, q_seq, q_max, q_gen] && Wi.inB q_off (-1099511627776) 1099511627776))) &&
      (q_recs.all (fun x => decide (x.off = 0)) && (decide (q_group.length ≤ 8) && (decide (q_member.length ≤ 8) && (decide (q_recs.length = 0) || Cr.fits q_recs)))))) := by simp [Hid, Wi.reqB, Bool.and_assoc]
  rw [HE.out]
  rw [any_not_all] at CT
  generalize Wi.inB q_client 1 4 = b1 at *
  generalize Wi.inB q_kind 1 8 = b2 at *
  generalize Wi.areB 0 1099511627776 [q_n, q_part, q_seq, q_max, q_gen] = b3 at *
  generalize Wi.inB q_off (-1099511627776) 1099511627776 = b4 at *
  generalize q_recs.all (fun x => decide (x.off = 0)) = b5 at *
  generalize Cr.fits q_recs = b9 at *
  obtain ⟨r1, hr1⟩ : ∃ r, r = (b1 && (b2 && (b3 && b4))) := ⟨_, rfl⟩
  rw [← hr1]
  have HR1 := Lib.hid hr1
  clear HE HRO hr1
  go_enter Tryz.func35, Tryz.ntmps35
  obtain ⟨w1, hw1, CA, B1⟩ := oneBox (w := w) [.int .i64 q_client, .int .i64 q_n, .int .i64 q_kind, .int .i64 q_part, .int .i64 q_seq, .int .i64 q_off, .int .i64 q_max, .int .i64 q_gen, .string ⟨q_group.toArray⟩, .string ⟨q_member.toArray⟩, .slice ra q_recs.length rc] 31
  have HW1 := Lib.hid hw1
  clear hw1
  go_upto_region 1 with (fail)
  first | rw [HW1.out] | skip
  clear HW1
  have a0 := CA.out.cell 0
  have a1 := CA.out.cell 1
  have a2 := CA.out.cell 2
  have a3 := CA.out.cell 3
  have a4 := CA.out.cell 4
  have a5 := CA.out.cell 5
  have a6 := CA.out.cell 6
  have a7 := CA.out.cell 7
  simp only [List.getElem?_cons_zero, List.getElem?_cons_succ] at a0 a1 a2 a3 a4 a5 a6 a7
  generalize w.heap.size = pa at CA a0 a1 a2 a3 a4 a5 a6 a7 ⊢
  go_cut [3] (fun t wz => t = .bool r1 ∧ Below w1.heap.size w1 wz)
  case first =>
    go_wp2_with fail
    refine (W1.out _).mono ?_
    rintro e w2 ⟨rfl, hw⟩
    subst hw
    cases b1 with
    | false =>
      go_wp2
      go_meet
      case rel => exact ⟨by rw [HR1.out]; rfl, Below.refl _ _⟩
    | true =>
      go_wp2_with fail
      refine (W2.out _).mono ?_
      rintro e w3 ⟨rfl, hw⟩
      subst hw
      cases b2 with
      | false =>
        go_wp2
        go_meet
        case rel => exact ⟨by rw [HR1.out]; rfl, Below.refl _ _⟩
      | true =>
        go_wp2_with fail
        refine (W3.out w3 _ (Cl.new _ _ _)).mono ?_
        rintro e w4 ⟨rfl, hb4⟩
        have B4 : Hid (Below w3.heap.size w3 w4) := bt ((Below.refl _ _).alloc (Nat.le_refl _) _) hb4
        have C4 := Lib.hid (CA.out.below B4.out)
        have a5 := C4.out.cell 5
        simp only [List.getElem?_cons_zero, List.getElem?_cons_succ] at a5
        clear hb4
        cases b3 with
        | false =>
          go_wp2
          go_meet
          case rel => exact ⟨by rw [HR1.out]; rfl, B4.out⟩
        | true =>
          go_wp2_with fail
          refine (W4.out _).mono ?_
          rintro e w5 ⟨rfl, hw⟩
          subst hw
          cases b4 <;>
          · go_wp2
            go_meet
            case rel => exact ⟨by rw [HR1.out]; rfl, B4.out⟩
  case rest =>
    obtain ⟨rfl, hwz⟩ := hcut
    have B2 := Lib.hid (bt B1.out hwz)
    have C2 := Lib.hid (CA.out.below hwz)
    have a10 := C2.out.cell 10
    simp only [List.getElem?_cons_zero, List.getElem?_cons_succ] at a10
    clear hwz CA a0 a1 a2 a3 a4 a5 a6 a7 W1 W2 W3 W4 HR1
    go_wp2_with fail
    refine (CT.out _ B2.out).mono ?_
    rintro e w3 ⟨rfl, hb3⟩
    have B3 := Lib.hid (bt B2.out hb3)
    have C3 := Lib.hid (C2.out.below hb3)
    clear hb3 a10 C2 CT
    have a8 := C3.out.cell 8
    have a9 := C3.out.cell 9
    have a10 := C3.out.cell 10
    simp only [List.getElem?_cons_zero, List.getElem?_cons_succ] at a8 a9 a10
    clear C3
    cases r1 with
    | false =>
      go_wp2
      go_ret
      exact ⟨rfl, B3.out⟩
    | true =>
      cases b5 with
      | false =>
        go_wp2
        go_ret
        exact ⟨rfl, B3.out⟩
      | true =>
        by_cases h6 : q_group.length ≤ 8
        · by_cases h7 : q_member.length ≤ 8
          · by_cases h8 : q_recs.length = 0
            · have HE8 : Hid ((true && (true && (decide (q_group.length ≤ 8) && (decide (q_member.length ≤ 8) && (decide (q_recs.length = 0) || b9))))) = true) := by simp [Hid, h6, h7, h8]
              rw [h8] at a10
              go_wp2
              go_ret
              exact ⟨by first | rfl | (rw [HE8.out]; rfl), B3.out⟩
            · have h8i : ((q_recs.length : Int) == 0) = false := beq_eq_false_iff_ne.2 (by omega)
              have HE8 : Hid ((true && (true && (decide (q_group.length ≤ 8) && (decide (q_member.length ≤ 8) && (decide (q_recs.length = 0) || b9))))) = b9) := by simp [Hid, h6, h7, h8]
              go_wp2_with fail
              refine (FT.out _ B3.out).mono ?_
              rintro e w6 ⟨rfl, hb6⟩
              have B6 := Lib.hid (bt B3.out hb6)
              clear hb6
              go_wp2
              go_ret
              exact ⟨by first | rfl | (rw [HE8.out]; rfl), B6.out⟩
          · have HE8 : Hid ((true && (true && (decide (q_group.length ≤ 8) && (decide (q_member.length ≤ 8) && (decide (q_recs.length = 0) || b9))))) = false) := by simp [Hid, h7]
            go_wp2
            go_ret
            exact ⟨by first | rfl | (rw [HE8.out]; rfl), B3.out⟩
        · have HE8 : Hid ((true && (true && (decide (q_group.length ≤ 8) && (decide (q_member.length ≤ 8) && (decide (q_recs.length = 0) || b9))))) = false) := by simp [Hid, h6]
          go_wp2
          go_ret
          exact ⟨by first | rfl | (rw [HE8.out]; rfl), B3.out⟩
set_option maxRecDepth 20000 in
set_option maxHeartbeats 6400000 in
theorem isPlace_any (pep learner : Int) (chain : List Int) (lives : List (Int × Int)) (cv lv : Value) (w : World) (hc : Ints w cv chain) (hcl : chain.length ≤ maxLen) (hl : Rw 2 lifeC w lv lives) (hll : lives.length ≤ maxLen) :
    Calls Tryz.prog 37 #[.agg #[.int .i64 pep, cv, .int .i64 learner], lv] w fun e w' => e = .returned (.bool (Wi.inB pep 0 1073741824 && (Wi.inB learner 0 5 && (decide (chain.length ≤ 5) && (Wi.areB 1 5 chain && (decide (lives.length ≤ 5) && lives.all Wi.lifeB)))))) ∧ Below w.heap.size w w' := by
  have HC := Lib.hid hc
  have HL := Lib.hid hl
  obtain ⟨ca, cc, hcv⟩ := hc.form
  subst hcv
  obtain ⟨la, lc, hlv⟩ := hl.form
  subst hlv
  clear hc hl
  have W1 := Lib.hid (fun W => wwithin_any pep 0 1073741824 W)
  have W2 := Lib.hid (fun W => wwithin_any learner 0 5 W)
  have W3 := Lib.hid (fun (W : World) (hW : Below w.heap.size w W) => are_any chain hcl _ 1 5 W (HC.out.kept hW))
  have W5 := Lib.hid (fun (W : World) (hW : Below w.heap.size w W) => containsplace_any lives hll _ W (HL.out.kept hW))
  unfold maxLen at hcl hll
  rw [any_not_all] at W5
  generalize Wi.inB pep 0 1073741824 = b1 at *
  generalize Wi.inB learner 0 5 = b2 at *
  generalize Wi.areB 1 5 chain = b4 at *
  generalize lives.all Wi.lifeB = b6 at *
  go_enter Tryz.func37, Tryz.ntmps37
  obtain ⟨w1, hw1, CA, B1⟩ := oneBox (w := w) [.int .i64 pep, .slice ca chain.length cc, .int .i64 learner] 24
  have HW1 := Lib.hid hw1
  clear hw1
  go_upto_region 1 with (fail)
  first | rw [HW1.out] | skip
  clear HW1
  have HA := Lib.hid (fun (W : World) (hW : Below w1.heap.size w1 W) => (CA.out.below hW))
  have a0 := CA.out.cell 0
  have a1 := CA.out.cell 1
  have a2 := CA.out.cell 2
  simp only [List.getElem?_cons_zero, List.getElem?_cons_succ] at a0 a1 a2
  generalize w.heap.size = pa at CA a0 a1 a2 HA ⊢
  go_wp2_with fail
  refine (W1.out _).mono ?_
  rintro e w2 ⟨rfl, hw⟩
  subst hw
  cases b1 with
  | false =>
    go_wp2
    go_ret
    exact ⟨rfl, B1.out⟩
  | true =>
    go_wp2_with fail
    refine (W2.out _).mono ?_
    rintro e w3 ⟨rfl, hw⟩
    subst hw
    cases b2 with
    | false =>
      go_wp2
      go_ret
      exact ⟨rfl, B1.out⟩
    | true =>
      by_cases h3 : chain.length ≤ 5
      · have HE3 : Hid ((decide (chain.length ≤ 5)) = true) := decide_eq_true h3
        go_wp2_with fail
        refine (W3.out _ B1.out).mono ?_
        rintro e w4 ⟨rfl, hb4⟩
        have B4 := Lib.hid (bt B1.out hb4)
        clear hb4
        cases b4 with
        | false =>
          go_wp2
          go_ret
          exact ⟨by first | rfl | (rw [HE3.out]; rfl), B4.out⟩
        | true =>
          by_cases h5 : lives.length ≤ 5
          · have HE5 : Hid ((decide (lives.length ≤ 5)) = true) := decide_eq_true h5
            go_wp2_with fail
            refine (W5.out _ B4.out).mono ?_
            rintro e w5 ⟨rfl, hb5⟩
            have B5 := Lib.hid (bt B4.out hb5)
            clear hb5
            go_wp2
            go_ret
            exact ⟨by first | rfl | (rw [HE3.out, HE5.out]; cases b6 <;> rfl), B5.out⟩
          · have HE5 : Hid ((decide (lives.length ≤ 5)) = false) := decide_eq_false h5
            go_wp2
            go_ret
            exact ⟨by first | rfl | (rw [HE3.out, HE5.out]; rfl), B4.out⟩
      · have HE3 : Hid ((decide (chain.length ≤ 5)) = false) := decide_eq_false h3
        go_wp2
        go_ret
        exact ⟨by first | rfl | (rw [HE3.out]; rfl), B1.out⟩
end Go.Proofs.YtjfpbeccpcbpcaaGreatDoor
namespace Go.Proofs.YtjfpbeccpcbpcaaGreatDoor
open Go Go.RowKit
section
variable {P : Program} {ops : Array Oper} {md : Region.Mode} {C : World → Prop}
theorem wp_region_class {id : Nat} {Q : Exit → Act → World → Prop} {a : Act} {w : World} {l : List Oper} (C : World → Prop) (hm : P.follows .mixedOrders = true) (hB : Region.lexB .any l.toArray = true) (hC : C w.drew)
    (h : wpQuiet P l.toArray C (fun a' => ∀ w', C w' → Q .normal a' w') l a) : (Code.region id l.toArray true).wp P Q a w :=
  wp_region_quiet (C := C) hm hB hC (by simpa using h)
def BelowOf (w : World) : Type := {W : World // Below w.heap.size w W}
instance (w : World) : Nonempty (BelowOf w) := ⟨⟨w, Below.refl _ _⟩⟩
theorem BelowOf.cell {w : World} (b : BelowOf w) {p : Addr} {v : Value} (h : w.cell? p = some v) : b.1.cell? p = some v := (b.2.cell (World.block_lt_of_cell? w _ h)).trans h
theorem wp_region_below {id : Nat} {Q : Exit → Act → World → Prop} {a : Act} {w : World} {l : List Oper} (hm : P.follows .mixedOrders = true) (hB : Region.lexB .any l.toArray = true)
    (h : wpQuiet P l.toArray (fun W => ∃ b : BelowOf w, W = b.1) (fun a' => ∀ w', (∃ b : BelowOf w, w' = b.1) → Q .normal a' w') l a) : (Code.region id l.toArray true).wp P Q a w :=
  wp_region_class _ hm hB ⟨⟨w.drew, (Below.refl _ _).drew⟩, rfl⟩ h
theorem belowOf_call {w a b : World} (h : Below w.heap.size w a) (k : Below a.heap.size a b) : ∃ c : BelowOf w, b = c.1 := ⟨⟨b, h.trans (k.mono h.size)⟩, rfl⟩
theorem below_class {w : World} {f : FuncId} {args : Array Value} {v : Value} (h : ∀ W, Below w.heap.size w W → Calls P f args W fun e w' => e = .returned v ∧ Below W.heap.size W w') :
    ∀ b : BelowOf w, Calls P f args b.1 fun e w' => e = .returned v ∧ ∃ c : BelowOf w, w' = c.1 := fun b => (h b.1 b.2).mono (fun _ _ ⟨a, k⟩ => ⟨a, belowOf_call b.2 k⟩)
end
end Go.Proofs.YtjfpbeccpcbpcaaGreatDoor
