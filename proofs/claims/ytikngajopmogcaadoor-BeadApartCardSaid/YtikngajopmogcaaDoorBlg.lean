/-
  BeadApart: plainly, and the walk.
  Conditions: the library's variables hold what they are laid with.
-/
import Derived.Test.YtikngajopmogcaaDoorBlf
import Derived.Test.YtikngajopmogcaaDoorBlc
import Derived.Test.YtikngajopmogcaaDoorBla
import Derived.Test.YtikngajopmogcaaDoorQt
set_option linter.unusedVariables false
set_option linter.unusedSimpArgs false
namespace Go.Proofs.YtikngajopmogcaaDoor
open Go.RowKit

/-- A number, or a text, written. -/
def encT (is : Bool) (n : Int) (t : List UInt8) : List UInt8 := if is then Bd.bText t else Bd.bInt n
theorem take_min {x y : List UInt8} (h : x.take (min x.length y.length) = y.take (min x.length y.length)) : (∃ r, y = x ++ r) ∨ ∃ r, x = y ++ r := by
  rcases Nat.le_total x.length y.length with hl | hl
  · left
    rw [Nat.min_eq_left hl, List.take_length] at h
    exact ⟨y.drop x.length, by rw [h]; simp [List.length_take, Nat.min_eq_left hl]⟩
  · right
    rw [Nat.min_eq_right hl, List.take_length] at h
    exact ⟨x.drop y.length, by rw [← h]; simp [List.length_take, Nat.min_eq_left hl]⟩
theorem int_pre {n m : Int} (hn : Bd.inR n) (hm : Bd.inR m) {r : List UInt8} (h : Bd.bInt m = Bd.bInt n ++ r) : n = m := by
  have h1 := Bd.rdInt_of [] hm
  rw [List.append_nil, h, Bd.rdInt_of r hn] at h1
  simp only [Option.some.injEq, Prod.mk.injEq] at h1
  exact h1.1
theorem text_pre {s t : List UInt8} (hs : s.length ≤ 4096) (ht : t.length ≤ 4096) {r : List UInt8} (h : Bd.bText t = Bd.bText s ++ r) : s = t := by
  have h1 := Bd.rdText_of (most := 4096) t [] (by omega) (by omega)
  rw [List.append_nil, h, Bd.rdText_of s r (by omega) (by omega)] at h1
  simp only [Option.some.injEq, Prod.mk.injEq] at h1
  exact h1.1
theorem pre_ii {n m : Int} (hn : Bd.inR n) (hm : Bd.inR m) : ((Bd.bInt n).take (min (Bd.bInt n).length (Bd.bInt m).length) == (Bd.bInt m).take (min (Bd.bInt n).length (Bd.bInt m).length)) = (n == m) := by
  by_cases e : n = m
  · subst e; simp
  · rw [beq_eq_false_iff_ne.2 e, beq_eq_false_iff_ne]
    intro h
    rcases take_min h with ⟨r, h1⟩ | ⟨r, h1⟩
    · exact e (int_pre hn hm h1)
    · exact e (int_pre hm hn h1).symm
theorem pre_tt {s t : List UInt8} (hs : s.length ≤ 4096) (ht : t.length ≤ 4096) : ((Bd.bText s).take (min (Bd.bText s).length (Bd.bText t).length) == (Bd.bText t).take (min (Bd.bText s).length (Bd.bText t).length)) = (s == t) := by
  by_cases e : s = t
  · subst e; simp
  · rw [beq_eq_false_iff_ne.2 e, beq_eq_false_iff_ne]
    intro h
    rcases take_min h with ⟨r, h1⟩ | ⟨r, h1⟩
    · exact e (text_pre hs ht h1)
    · exact e (text_pre ht hs h1).symm
theorem head_ne {n : Int} {t r r' : List UInt8} (h : Bd.bInt n ++ r = Bd.bText t ++ r') : False := by
  obtain ⟨c, l, e, hd⟩ := Bd.bText_head t r'
  rw [e] at h
  simp only [Bd.bInt, List.cons_append, List.cons.injEq] at h
  obtain ⟨rfl, _⟩ := h
  revert hd
  decide
theorem pre_it (n : Int) (t : List UInt8) : ((Bd.bInt n).take (min (Bd.bInt n).length (Bd.bText t).length) == (Bd.bText t).take (min (Bd.bInt n).length (Bd.bText t).length)) = false := by
  rw [beq_eq_false_iff_ne]
  intro h
  rcases take_min h with ⟨r, h1⟩ | ⟨r, h1⟩
  · exact head_ne (r := r) (r' := []) (by rw [List.append_nil, h1])
  · exact head_ne (r := []) (r' := r) (by rw [List.append_nil, h1])
theorem pre_ti (n : Int) (t : List UInt8) : ((Bd.bText t).take (min (Bd.bText t).length (Bd.bInt n).length) == (Bd.bInt n).take (min (Bd.bText t).length (Bd.bInt n).length)) = false := by
  rw [beq_eq_false_iff_ne]
  intro h
  rcases take_min h with ⟨r, h1⟩ | ⟨r, h1⟩
  · exact head_ne (r := []) (r' := r) (by rw [List.append_nil, h1])
  · exact head_ne (r := r) (r' := []) (by rw [List.append_nil, h1])
/-- Cut off, a thing is none. -/
theorem cut_off (is : Bool) (n : Int) (hn : Bd.inR n) (t : List UInt8) (ht : t.length ≤ 4096) (k : Nat) (hk : k < (encT is n t).length) :
    Bd.sDone (Bd.sInt ((encT is n t).take k, false)).2 = 3 ∧ Bd.sDone (Bd.sText 4096 ((encT is n t).take k, false)).2 = 3 := by
  have hlen : ∀ l : List UInt8, (encT is n t).take k = l → (encT is n t) = l ++ (encT is n t).drop k := fun l hl => by rw [← hl]; exact (List.take_append_drop k _).symm
  have hdr : (encT is n t).drop k ≠ [] := by rw [Ne, List.drop_eq_nil_iff]; omega
  rcases one_cases ((encT is n t).take k) with ⟨m, hm, e, _⟩ | ⟨u, hu, e, _⟩ | h
  · exfalso
    have h1 := hlen _ e
    cases is with
    | true =>
      exact head_ne (n := m) (t := t) (r' := []) (r := (encT true n t).drop k) (by rw [List.append_nil]; exact h1.symm)
    | false =>
      simp only [encT] at h1 hdr
      have h2 : m = n := int_pre hm hn (by simpa using h1)
      subst h2
      simp at h1
      simp at hdr
      omega
  · exfalso
    have h1 := hlen _ e
    cases is with
    | true =>
      simp only [encT] at h1 hdr
      have h2 : u = t := text_pre hu ht (by simpa using h1)
      subst h2
      simp at h1
      simp at hdr
      omega
    | false =>
      simp only [encT] at h1 hdr
      exact head_ne (n := n) (t := u) (r := []) (by rw [List.append_nil]; simpa using h1)
  · exact h

set_option maxRecDepth 20000 in
set_option maxHeartbeats 1600000 in
theorem apart_tt1 (na nb : Int) (ta tb : List UInt8) (cut : Int) (w : World) (hna : Bd.inR na) (hnb : Bd.inR nb) (hta : ta.length ≤ 4096) (htb : tb.length ≤ 4096) (hw : Lw w) (hse0 : Hid ((ta == tb) = true)) :
    Calls Tryd.prog 7 #[.agg #[.bool true, .int .i64 na, .string ⟨ta.toArray⟩], .agg #[.bool true, .int .i64 nb, .string ⟨tb.toArray⟩], .int .i64 cut] w fun e w' => e = .returned (.bool true) ∧ Below w.heap.size w w' := by
  have HW := Lib.hid hw
  have HNA := Lib.hid hna
  have HNB := Lib.hid hnb
  have HPRE := Lib.hid (pre_tt hta htb)
  have HX : Hid ((Bd.bText ta) = encT true na ta) := rfl
  have HC := Lib.hid (cut_off true na hna ta hta)
  have hxl : (Bd.bText ta).length ≤ 4200 := bText_length ta hta
  have hyl : (Bd.bText tb).length ≤ 4200 := bText_length tb htb
  have hx0 : 0 < (Bd.bText ta).length := by simp [Bd.bText, Bd.bInt]; omega
  have hxe : (Bd.bText ta).isEmpty = false := by cases hh : (Bd.bText ta) with | nil => rw [hh] at hx0; simp at hx0 | cons _ _ => rfl
  obtain ⟨B0, hB0⟩ : ∃ W, (w.alloc (.cells #[.bool true, .int .i64 na, .string ⟨ta.toArray⟩] 44)).alloc (.cells #[.bool true, .int .i64 nb, .string ⟨tb.toArray⟩] 44) = W := ⟨_, rfl⟩
  have hbel : Hid (Below w.heap.size w B0) := hB0 ▸ ((Below.refl _ _).alloc (Nat.le_refl _) _).alloc (by simp) _
  have hblk : Hid (B0.heap[w.heap.size]? = some (.cells #[.bool true, .int .i64 na, .string ⟨ta.toArray⟩] 44 (0, 0)) ∧ B0.heap[w.heap.size + 1]? = some (.cells #[.bool true, .int .i64 nb, .string ⟨tb.toArray⟩] 44 (0, 0))) := by
    rw [← hB0]
    refine ⟨?_, ?_⟩
    · exact (Below.heap_alloc _ _ _ (by simp)).trans (heap_alloc_new w _)
    · have := heap_alloc_new (w.alloc (.cells #[.bool true, .int .i64 na, .string ⟨ta.toArray⟩] 44)) (.cells #[.bool true, .int .i64 nb, .string ⟨tb.toArray⟩] 44)
      rwa [World.size_alloc] at this
  have hsz : Hid (B0.heap.size = w.heap.size + 2) := by rw [Hid, ← hB0, World.size_alloc, World.size_alloc]
  have hcells : ∀ W : World, Below B0.heap.size B0 W → (W.cell? ⟨w.heap.size, 0, none⟩ = some (.bool true) ∧ W.cell? ⟨w.heap.size, 1, none⟩ = some (.int .i64 na) ∧ W.cell? ⟨w.heap.size, 2, none⟩ = some (.string ⟨ta.toArray⟩)) ∧
      W.cell? ⟨w.heap.size + 1, 0, none⟩ = some (.bool true) ∧ W.cell? ⟨w.heap.size + 1, 1, none⟩ = some (.int .i64 nb) ∧ W.cell? ⟨w.heap.size + 1, 2, none⟩ = some (.string ⟨tb.toArray⟩) := fun W hb => by
    have e1 := (hb.block w.heap.size (by rw [hsz.out]; omega)).trans hblk.out.1
    have e2 := (hb.block (w.heap.size + 1) (by rw [hsz.out]; omega)).trans hblk.out.2
    simp [World.cell?, e1, e2]
  have HCE := Lib.hid hcells
  have LB := Lib.hid (HW.out.below hbel.out)
  have HB0 := Lib.hid hB0
  clear hw hna hnb hcells hB0 hblk
  go_enter Tryd.func7, Tryd.ntmps7
  go_wp2_with fail
  rw [HB0.out]
  refine (awake_any _ LB.out).mono ?_
  rintro e w1 ⟨rfl, hb1⟩
  have B1 := Lib.hid hb1
  clear hb1
  obtain ⟨⟨a0, a1, a2⟩, b0, b1, b2⟩ := HCE.out _ B1.out
  go_wp2_with fail
  refine (beadInt_any na HNA.out _ (LB.out.below B1.out)).mono ?_
  rintro e w2 ⟨rfl, hb⟩
  have B2 := Lib.hid (bt B1.out hb)
  clear hb B1 a0 a1 a2 b0 b1 b2
  obtain ⟨⟨a0, a1, a2⟩, b0, b1, b2⟩ := HCE.out _ B2.out
  go_wp2_with fail
  refine (beadText_any ta (by omega) _ (LB.out.below B2.out)).mono ?_
  rintro e w3 ⟨rfl, hb⟩
  have B3 := Lib.hid (bt B2.out hb)
  clear hb B2 a0 a1 a2 b0 b1 b2
  obtain ⟨⟨a0, a1, a2⟩, b0, b1, b2⟩ := HCE.out _ B3.out
  go_wp2_with fail
  refine (beadInt_any nb HNB.out _ (LB.out.below B3.out)).mono ?_
  rintro e w4 ⟨rfl, hb⟩
  have B4 := Lib.hid (bt B3.out hb)
  clear hb B3 a0 a1 a2 b0 b1 b2
  obtain ⟨⟨a0, a1, a2⟩, b0, b1, b2⟩ := HCE.out _ B4.out
  go_wp2_with fail
  refine (beadText_any tb (by omega) _ (LB.out.below B4.out)).mono ?_
  rintro e w5 ⟨rfl, hb⟩
  have B5 := Lib.hid (bt B4.out hb)
  clear hb B4 a0 a1 a2 b0 b1 b2
  obtain ⟨⟨a0, a1, a2⟩, b0, b1, b2⟩ := HCE.out _ B5.out
  have hx1 : (Bd.bText ta) ≠ [] := fun e => by rw [e] at hx0; simp at hx0
  have BB := Lib.hid (hbel.out.trans (B5.out.mono (by rw [hsz.out]; omega)))
  have LL := Lib.hid (LB.out.below B5.out)
  clear HX B5
  rw [show encT true na ta = (Bd.bText ta) from rfl] at HC
  generalize (Bd.bText ta) = x at *
  generalize (Bd.bText tb) = y at *
  have hs1 := str_to (P := Tryd.prog) x (min x.length y.length) (min (x.length : Int) (y.length : Int)) .i64 (by omega) (by omega) 9 Tryd.underlying9
  have hs2 := str_to (P := Tryd.prog) y (min x.length y.length) (min (x.length : Int) (y.length : Int)) .i64 (by omega) (by omega) 9 Tryd.underlying9
  generalize x.take (min x.length y.length) = x1 at *
  generalize y.take (min x.length y.length) = y1 at *
  obtain ⟨j, hmod, hjl⟩ := mod_nat cut (x.length : Int) (by omega) (by omega)
  have hjn : j < x.length := by omega
  have hs3 := str_to (P := Tryd.prog) x j j .i64 rfl (by omega) 9 Tryd.underlying9
  have hcut := Lib.hid (HC.out j hjn)
  have hzl : (x.take j).length ≤ 4200 := by rw [List.length_take]; omega
  clear HC
  generalize x.take j = z at *
  have hpre := HPRE.out
  have hse := hse0.out
  rw [hse] at hpre
  go_wp2_with fail
  go_quiet (fail)
  have BD := Lib.hid (below_drewN BB.out nq)
  have LD := Lib.hid (LL.out.drewN nq)
  clear BB LL HPRE a0 a1 a2 b0 b1 b2
  generalize w5.drewN nq = v0 at *
  go_wp2_with fail
  refine (new_any z _).mono ?_
  rintro e u4 ⟨rfl, rfl⟩
  have B5 : Hid (Below w.heap.size w (v0.alloc (.cells #[.string ⟨z.toArray⟩, .bool false] 53))) := BD.out.alloc BD.out.size _
  have R5 := Lib.hid (Rd.new z v0)
  have hp := BD.out.size
  generalize v0.alloc (.cells #[.string ⟨z.toArray⟩, .bool false] 53) = v5 at *
  generalize v0.heap.size = p at *
  clear BD
  go_wp2_with fail
  refine (int_any _ _ _ R5.out (by simp only; omega) (HW.out.below B5.out)).mono ?_
  rintro e v6 ⟨rfl, h6⟩
  have B6 := Lib.hid (h6.bel B5.out hp)
  have R6 := Lib.hid h6.1
  clear h6 B5 R5
  go_wp2_with fail
  refine (new_any z _).mono ?_
  rintro e u4 ⟨rfl, rfl⟩
  have B7 : Hid (Below w.heap.size w (v6.alloc (.cells #[.string ⟨z.toArray⟩, .bool false] 53))) := B6.out.alloc B6.out.size _
  have R7 := Lib.hid (Rd.new z v6)
  have R7' : Hid (Rd (v6.alloc (.cells #[.string ⟨z.toArray⟩, .bool false] 53)) p (Bd.sInt (z, false)).2) := R6.out.keep (S := fun _ => False) (Keeps.alloc _ _ _) id
  have hp2 := B6.out.size
  have hpp := R6.out.lt
  generalize v6.alloc (.cells #[.string ⟨z.toArray⟩, .bool false] 53) = v7 at *
  generalize v6.heap.size = p2 at *
  clear B6 R6
  go_wp2_with fail
  refine (text_any _ _ _ _ R7.out (by simp only; omega) (HW.out.below B7.out)).mono ?_
  rintro e v8 ⟨rfl, h8⟩
  have B8 := Lib.hid (h8.bel B7.out hp2)
  have R8 := Lib.hid h8.1
  have R8' := Lib.hid (R7'.out.keep h8.2 (by omega))
  clear h8 B7 R7 R7'
  go_wp2_with fail
  refine (done_is _ _ 3 hcut.out.1 _ R8'.out).mono ?_
  rintro e v9 ⟨rfl, rfl⟩
  go_wp2_with fail
  refine (done_is _ _ 3 hcut.out.2 _ R8.out).mono ?_
  rintro e v9 ⟨rfl, rfl⟩
  go_wp2
  go_ret
  exact ⟨rfl, B8.out⟩
set_option maxRecDepth 20000 in
set_option maxHeartbeats 1600000 in
theorem apart_tt0 (na nb : Int) (ta tb : List UInt8) (cut : Int) (w : World) (hna : Bd.inR na) (hnb : Bd.inR nb) (hta : ta.length ≤ 4096) (htb : tb.length ≤ 4096) (hw : Lw w) (hse0 : Hid ((ta == tb) = false)) :
    Calls Tryd.prog 7 #[.agg #[.bool true, .int .i64 na, .string ⟨ta.toArray⟩], .agg #[.bool true, .int .i64 nb, .string ⟨tb.toArray⟩], .int .i64 cut] w fun e w' => e = .returned (.bool true) ∧ Below w.heap.size w w' := by
  have HW := Lib.hid hw
  have HNA := Lib.hid hna
  have HNB := Lib.hid hnb
  have HPRE := Lib.hid (pre_tt hta htb)
  have HX : Hid ((Bd.bText ta) = encT true na ta) := rfl
  have HC := Lib.hid (cut_off true na hna ta hta)
  have hxl : (Bd.bText ta).length ≤ 4200 := bText_length ta hta
  have hyl : (Bd.bText tb).length ≤ 4200 := bText_length tb htb
  have hx0 : 0 < (Bd.bText ta).length := by simp [Bd.bText, Bd.bInt]; omega
  have hxe : (Bd.bText ta).isEmpty = false := by cases hh : (Bd.bText ta) with | nil => rw [hh] at hx0; simp at hx0 | cons _ _ => rfl
  obtain ⟨B0, hB0⟩ : ∃ W, (w.alloc (.cells #[.bool true, .int .i64 na, .string ⟨ta.toArray⟩] 44)).alloc (.cells #[.bool true, .int .i64 nb, .string ⟨tb.toArray⟩] 44) = W := ⟨_, rfl⟩
  have hbel : Hid (Below w.heap.size w B0) := hB0 ▸ ((Below.refl _ _).alloc (Nat.le_refl _) _).alloc (by simp) _
  have hblk : Hid (B0.heap[w.heap.size]? = some (.cells #[.bool true, .int .i64 na, .string ⟨ta.toArray⟩] 44 (0, 0)) ∧ B0.heap[w.heap.size + 1]? = some (.cells #[.bool true, .int .i64 nb, .string ⟨tb.toArray⟩] 44 (0, 0))) := by
    rw [← hB0]
    refine ⟨?_, ?_⟩
    · exact (Below.heap_alloc _ _ _ (by simp)).trans (heap_alloc_new w _)
    · have := heap_alloc_new (w.alloc (.cells #[.bool true, .int .i64 na, .string ⟨ta.toArray⟩] 44)) (.cells #[.bool true, .int .i64 nb, .string ⟨tb.toArray⟩] 44)
      rwa [World.size_alloc] at this
  have hsz : Hid (B0.heap.size = w.heap.size + 2) := by rw [Hid, ← hB0, World.size_alloc, World.size_alloc]
  have hcells : ∀ W : World, Below B0.heap.size B0 W → (W.cell? ⟨w.heap.size, 0, none⟩ = some (.bool true) ∧ W.cell? ⟨w.heap.size, 1, none⟩ = some (.int .i64 na) ∧ W.cell? ⟨w.heap.size, 2, none⟩ = some (.string ⟨ta.toArray⟩)) ∧
      W.cell? ⟨w.heap.size + 1, 0, none⟩ = some (.bool true) ∧ W.cell? ⟨w.heap.size + 1, 1, none⟩ = some (.int .i64 nb) ∧ W.cell? ⟨w.heap.size + 1, 2, none⟩ = some (.string ⟨tb.toArray⟩) := fun W hb => by
    have e1 := (hb.block w.heap.size (by rw [hsz.out]; omega)).trans hblk.out.1
    have e2 := (hb.block (w.heap.size + 1) (by rw [hsz.out]; omega)).trans hblk.out.2
    simp [World.cell?, e1, e2]
  have HCE := Lib.hid hcells
  have LB := Lib.hid (HW.out.below hbel.out)
  have HB0 := Lib.hid hB0
  clear hw hna hnb hcells hB0 hblk
  go_enter Tryd.func7, Tryd.ntmps7
  go_wp2_with fail
  rw [HB0.out]
  refine (awake_any _ LB.out).mono ?_
  rintro e w1 ⟨rfl, hb1⟩
  have B1 := Lib.hid hb1
  clear hb1
  obtain ⟨⟨a0, a1, a2⟩, b0, b1, b2⟩ := HCE.out _ B1.out
  go_wp2_with fail
  refine (beadInt_any na HNA.out _ (LB.out.below B1.out)).mono ?_
  rintro e w2 ⟨rfl, hb⟩
  have B2 := Lib.hid (bt B1.out hb)
  clear hb B1 a0 a1 a2 b0 b1 b2
  obtain ⟨⟨a0, a1, a2⟩, b0, b1, b2⟩ := HCE.out _ B2.out
  go_wp2_with fail
  refine (beadText_any ta (by omega) _ (LB.out.below B2.out)).mono ?_
  rintro e w3 ⟨rfl, hb⟩
  have B3 := Lib.hid (bt B2.out hb)
  clear hb B2 a0 a1 a2 b0 b1 b2
  obtain ⟨⟨a0, a1, a2⟩, b0, b1, b2⟩ := HCE.out _ B3.out
  go_wp2_with fail
  refine (beadInt_any nb HNB.out _ (LB.out.below B3.out)).mono ?_
  rintro e w4 ⟨rfl, hb⟩
  have B4 := Lib.hid (bt B3.out hb)
  clear hb B3 a0 a1 a2 b0 b1 b2
  obtain ⟨⟨a0, a1, a2⟩, b0, b1, b2⟩ := HCE.out _ B4.out
  go_wp2_with fail
  refine (beadText_any tb (by omega) _ (LB.out.below B4.out)).mono ?_
  rintro e w5 ⟨rfl, hb⟩
  have B5 := Lib.hid (bt B4.out hb)
  clear hb B4 a0 a1 a2 b0 b1 b2
  obtain ⟨⟨a0, a1, a2⟩, b0, b1, b2⟩ := HCE.out _ B5.out
  have hx1 : (Bd.bText ta) ≠ [] := fun e => by rw [e] at hx0; simp at hx0
  have BB := Lib.hid (hbel.out.trans (B5.out.mono (by rw [hsz.out]; omega)))
  have LL := Lib.hid (LB.out.below B5.out)
  clear HX B5
  rw [show encT true na ta = (Bd.bText ta) from rfl] at HC
  generalize (Bd.bText ta) = x at *
  generalize (Bd.bText tb) = y at *
  have hs1 := str_to (P := Tryd.prog) x (min x.length y.length) (min (x.length : Int) (y.length : Int)) .i64 (by omega) (by omega) 9 Tryd.underlying9
  have hs2 := str_to (P := Tryd.prog) y (min x.length y.length) (min (x.length : Int) (y.length : Int)) .i64 (by omega) (by omega) 9 Tryd.underlying9
  generalize x.take (min x.length y.length) = x1 at *
  generalize y.take (min x.length y.length) = y1 at *
  obtain ⟨j, hmod, hjl⟩ := mod_nat cut (x.length : Int) (by omega) (by omega)
  have hjn : j < x.length := by omega
  have hs3 := str_to (P := Tryd.prog) x j j .i64 rfl (by omega) 9 Tryd.underlying9
  have hcut := Lib.hid (HC.out j hjn)
  have hzl : (x.take j).length ≤ 4200 := by rw [List.length_take]; omega
  clear HC
  generalize x.take j = z at *
  have hpre := HPRE.out
  have hse := hse0.out
  rw [hse] at hpre
  go_wp2_with fail
  go_quiet (fail)
  have BD := Lib.hid (below_drewN BB.out nq)
  have LD := Lib.hid (LL.out.drewN nq)
  clear BB LL HPRE a0 a1 a2 b0 b1 b2
  generalize w5.drewN nq = v0 at *
  go_wp2_with fail
  refine (new_any z _).mono ?_
  rintro e u4 ⟨rfl, rfl⟩
  have B5 : Hid (Below w.heap.size w (v0.alloc (.cells #[.string ⟨z.toArray⟩, .bool false] 53))) := BD.out.alloc BD.out.size _
  have R5 := Lib.hid (Rd.new z v0)
  have hp := BD.out.size
  generalize v0.alloc (.cells #[.string ⟨z.toArray⟩, .bool false] 53) = v5 at *
  generalize v0.heap.size = p at *
  clear BD
  go_wp2_with fail
  refine (int_any _ _ _ R5.out (by simp only; omega) (HW.out.below B5.out)).mono ?_
  rintro e v6 ⟨rfl, h6⟩
  have B6 := Lib.hid (h6.bel B5.out hp)
  have R6 := Lib.hid h6.1
  clear h6 B5 R5
  go_wp2_with fail
  refine (new_any z _).mono ?_
  rintro e u4 ⟨rfl, rfl⟩
  have B7 : Hid (Below w.heap.size w (v6.alloc (.cells #[.string ⟨z.toArray⟩, .bool false] 53))) := B6.out.alloc B6.out.size _
  have R7 := Lib.hid (Rd.new z v6)
  have R7' : Hid (Rd (v6.alloc (.cells #[.string ⟨z.toArray⟩, .bool false] 53)) p (Bd.sInt (z, false)).2) := R6.out.keep (S := fun _ => False) (Keeps.alloc _ _ _) id
  have hp2 := B6.out.size
  have hpp := R6.out.lt
  generalize v6.alloc (.cells #[.string ⟨z.toArray⟩, .bool false] 53) = v7 at *
  generalize v6.heap.size = p2 at *
  clear B6 R6
  go_wp2_with fail
  refine (text_any _ _ _ _ R7.out (by simp only; omega) (HW.out.below B7.out)).mono ?_
  rintro e v8 ⟨rfl, h8⟩
  have B8 := Lib.hid (h8.bel B7.out hp2)
  have R8 := Lib.hid h8.1
  have R8' := Lib.hid (R7'.out.keep h8.2 (by omega))
  clear h8 B7 R7 R7'
  go_wp2_with fail
  refine (done_is _ _ 3 hcut.out.1 _ R8'.out).mono ?_
  rintro e v9 ⟨rfl, rfl⟩
  go_wp2_with fail
  refine (done_is _ _ 3 hcut.out.2 _ R8.out).mono ?_
  rintro e v9 ⟨rfl, rfl⟩
  go_wp2
  go_ret
  exact ⟨rfl, B8.out⟩
set_option maxRecDepth 20000 in
set_option maxHeartbeats 1600000 in
theorem apart_ti (na nb : Int) (ta tb : List UInt8) (cut : Int) (w : World) (hna : Bd.inR na) (hnb : Bd.inR nb) (hta : ta.length ≤ 4096) (htb : tb.length ≤ 4096) (hw : Lw w) :
    Calls Tryd.prog 7 #[.agg #[.bool true, .int .i64 na, .string ⟨ta.toArray⟩], .agg #[.bool false, .int .i64 nb, .string ⟨tb.toArray⟩], .int .i64 cut] w fun e w' => e = .returned (.bool true) ∧ Below w.heap.size w w' := by
  have HW := Lib.hid hw
  have HNA := Lib.hid hna
  have HNB := Lib.hid hnb
  have HPRE := Lib.hid (pre_ti nb ta)
  have HX : Hid ((Bd.bText ta) = encT true na ta) := rfl
  have HC := Lib.hid (cut_off true na hna ta hta)
  have hxl : (Bd.bText ta).length ≤ 4200 := bText_length ta hta
  have hyl : (Bd.bInt nb).length ≤ 4200 := Nat.le_trans (bInt_length hnb) (by omega)
  have hx0 : 0 < (Bd.bText ta).length := by simp [Bd.bText, Bd.bInt]; omega
  have hxe : (Bd.bText ta).isEmpty = false := by cases hh : (Bd.bText ta) with | nil => rw [hh] at hx0; simp at hx0 | cons _ _ => rfl
  obtain ⟨B0, hB0⟩ : ∃ W, (w.alloc (.cells #[.bool true, .int .i64 na, .string ⟨ta.toArray⟩] 44)).alloc (.cells #[.bool false, .int .i64 nb, .string ⟨tb.toArray⟩] 44) = W := ⟨_, rfl⟩
  have hbel : Hid (Below w.heap.size w B0) := hB0 ▸ ((Below.refl _ _).alloc (Nat.le_refl _) _).alloc (by simp) _
  have hblk : Hid (B0.heap[w.heap.size]? = some (.cells #[.bool true, .int .i64 na, .string ⟨ta.toArray⟩] 44 (0, 0)) ∧ B0.heap[w.heap.size + 1]? = some (.cells #[.bool false, .int .i64 nb, .string ⟨tb.toArray⟩] 44 (0, 0))) := by
    rw [← hB0]
    refine ⟨?_, ?_⟩
    · exact (Below.heap_alloc _ _ _ (by simp)).trans (heap_alloc_new w _)
    · have := heap_alloc_new (w.alloc (.cells #[.bool true, .int .i64 na, .string ⟨ta.toArray⟩] 44)) (.cells #[.bool false, .int .i64 nb, .string ⟨tb.toArray⟩] 44)
      rwa [World.size_alloc] at this
  have hsz : Hid (B0.heap.size = w.heap.size + 2) := by rw [Hid, ← hB0, World.size_alloc, World.size_alloc]
  have hcells : ∀ W : World, Below B0.heap.size B0 W → (W.cell? ⟨w.heap.size, 0, none⟩ = some (.bool true) ∧ W.cell? ⟨w.heap.size, 1, none⟩ = some (.int .i64 na) ∧ W.cell? ⟨w.heap.size, 2, none⟩ = some (.string ⟨ta.toArray⟩)) ∧
      W.cell? ⟨w.heap.size + 1, 0, none⟩ = some (.bool false) ∧ W.cell? ⟨w.heap.size + 1, 1, none⟩ = some (.int .i64 nb) ∧ W.cell? ⟨w.heap.size + 1, 2, none⟩ = some (.string ⟨tb.toArray⟩) := fun W hb => by
    have e1 := (hb.block w.heap.size (by rw [hsz.out]; omega)).trans hblk.out.1
    have e2 := (hb.block (w.heap.size + 1) (by rw [hsz.out]; omega)).trans hblk.out.2
    simp [World.cell?, e1, e2]
  have HCE := Lib.hid hcells
  have LB := Lib.hid (HW.out.below hbel.out)
  have HB0 := Lib.hid hB0
  clear hw hna hnb hcells hB0 hblk
  go_enter Tryd.func7, Tryd.ntmps7
  go_wp2_with fail
  rw [HB0.out]
  refine (awake_any _ LB.out).mono ?_
  rintro e w1 ⟨rfl, hb1⟩
  have B1 := Lib.hid hb1
  clear hb1
  obtain ⟨⟨a0, a1, a2⟩, b0, b1, b2⟩ := HCE.out _ B1.out
  go_wp2_with fail
  refine (beadInt_any na HNA.out _ (LB.out.below B1.out)).mono ?_
  rintro e w2 ⟨rfl, hb⟩
  have B2 := Lib.hid (bt B1.out hb)
  clear hb B1 a0 a1 a2 b0 b1 b2
  obtain ⟨⟨a0, a1, a2⟩, b0, b1, b2⟩ := HCE.out _ B2.out
  go_wp2_with fail
  refine (beadText_any ta (by omega) _ (LB.out.below B2.out)).mono ?_
  rintro e w3 ⟨rfl, hb⟩
  have B3 := Lib.hid (bt B2.out hb)
  clear hb B2 a0 a1 a2 b0 b1 b2
  obtain ⟨⟨a0, a1, a2⟩, b0, b1, b2⟩ := HCE.out _ B3.out
  go_wp2_with fail
  refine (beadInt_any nb HNB.out _ (LB.out.below B3.out)).mono ?_
  rintro e w4 ⟨rfl, hb⟩
  have B4 := Lib.hid (bt B3.out hb)
  clear hb B3 a0 a1 a2 b0 b1 b2
  obtain ⟨⟨a0, a1, a2⟩, b0, b1, b2⟩ := HCE.out _ B4.out
  have hx1 : (Bd.bText ta) ≠ [] := fun e => by rw [e] at hx0; simp at hx0
  have BB := Lib.hid (hbel.out.trans (B4.out.mono (by rw [hsz.out]; omega)))
  have LL := Lib.hid (LB.out.below B4.out)
  clear HX B4
  rw [show encT true na ta = (Bd.bText ta) from rfl] at HC
  generalize (Bd.bText ta) = x at *
  generalize (Bd.bInt nb) = y at *
  have hs1 := str_to (P := Tryd.prog) x (min x.length y.length) (min (x.length : Int) (y.length : Int)) .i64 (by omega) (by omega) 9 Tryd.underlying9
  have hs2 := str_to (P := Tryd.prog) y (min x.length y.length) (min (x.length : Int) (y.length : Int)) .i64 (by omega) (by omega) 9 Tryd.underlying9
  generalize x.take (min x.length y.length) = x1 at *
  generalize y.take (min x.length y.length) = y1 at *
  obtain ⟨j, hmod, hjl⟩ := mod_nat cut (x.length : Int) (by omega) (by omega)
  have hjn : j < x.length := by omega
  have hs3 := str_to (P := Tryd.prog) x j j .i64 rfl (by omega) 9 Tryd.underlying9
  have hcut := Lib.hid (HC.out j hjn)
  have hzl : (x.take j).length ≤ 4200 := by rw [List.length_take]; omega
  clear HC
  generalize x.take j = z at *
  have hpre := HPRE.out
  go_wp2_with fail
  go_quiet (fail)
  have BD := Lib.hid (below_drewN BB.out nq)
  have LD := Lib.hid (LL.out.drewN nq)
  clear BB LL HPRE a0 a1 a2 b0 b1 b2
  generalize w4.drewN nq = v0 at *
  go_wp2_with fail
  refine (new_any z _).mono ?_
  rintro e u4 ⟨rfl, rfl⟩
  have B5 : Hid (Below w.heap.size w (v0.alloc (.cells #[.string ⟨z.toArray⟩, .bool false] 53))) := BD.out.alloc BD.out.size _
  have R5 := Lib.hid (Rd.new z v0)
  have hp := BD.out.size
  generalize v0.alloc (.cells #[.string ⟨z.toArray⟩, .bool false] 53) = v5 at *
  generalize v0.heap.size = p at *
  clear BD
  go_wp2_with fail
  refine (int_any _ _ _ R5.out (by simp only; omega) (HW.out.below B5.out)).mono ?_
  rintro e v6 ⟨rfl, h6⟩
  have B6 := Lib.hid (h6.bel B5.out hp)
  have R6 := Lib.hid h6.1
  clear h6 B5 R5
  go_wp2_with fail
  refine (new_any z _).mono ?_
  rintro e u4 ⟨rfl, rfl⟩
  have B7 : Hid (Below w.heap.size w (v6.alloc (.cells #[.string ⟨z.toArray⟩, .bool false] 53))) := B6.out.alloc B6.out.size _
  have R7 := Lib.hid (Rd.new z v6)
  have R7' : Hid (Rd (v6.alloc (.cells #[.string ⟨z.toArray⟩, .bool false] 53)) p (Bd.sInt (z, false)).2) := R6.out.keep (S := fun _ => False) (Keeps.alloc _ _ _) id
  have hp2 := B6.out.size
  have hpp := R6.out.lt
  generalize v6.alloc (.cells #[.string ⟨z.toArray⟩, .bool false] 53) = v7 at *
  generalize v6.heap.size = p2 at *
  clear B6 R6
  go_wp2_with fail
  refine (text_any _ _ _ _ R7.out (by simp only; omega) (HW.out.below B7.out)).mono ?_
  rintro e v8 ⟨rfl, h8⟩
  have B8 := Lib.hid (h8.bel B7.out hp2)
  have R8 := Lib.hid h8.1
  have R8' := Lib.hid (R7'.out.keep h8.2 (by omega))
  clear h8 B7 R7 R7'
  go_wp2_with fail
  refine (done_is _ _ 3 hcut.out.1 _ R8'.out).mono ?_
  rintro e v9 ⟨rfl, rfl⟩
  go_wp2_with fail
  refine (done_is _ _ 3 hcut.out.2 _ R8.out).mono ?_
  rintro e v9 ⟨rfl, rfl⟩
  go_wp2
  go_ret
  exact ⟨rfl, B8.out⟩
set_option maxRecDepth 20000 in
set_option maxHeartbeats 1600000 in
theorem apart_it (na nb : Int) (ta tb : List UInt8) (cut : Int) (w : World) (hna : Bd.inR na) (hnb : Bd.inR nb) (hta : ta.length ≤ 4096) (htb : tb.length ≤ 4096) (hw : Lw w) :
    Calls Tryd.prog 7 #[.agg #[.bool false, .int .i64 na, .string ⟨ta.toArray⟩], .agg #[.bool true, .int .i64 nb, .string ⟨tb.toArray⟩], .int .i64 cut] w fun e w' => e = .returned (.bool true) ∧ Below w.heap.size w w' := by
  have HW := Lib.hid hw
  have HNA := Lib.hid hna
  have HNB := Lib.hid hnb
  have HPRE := Lib.hid (pre_it na tb)
  have HX : Hid ((Bd.bInt na) = encT false na ta) := rfl
  have HC := Lib.hid (cut_off false na hna ta hta)
  have hxl : (Bd.bInt na).length ≤ 4200 := Nat.le_trans (bInt_length hna) (by omega)
  have hyl : (Bd.bText tb).length ≤ 4200 := bText_length tb htb
  have hx0 : 0 < (Bd.bInt na).length := by simp [Bd.bText, Bd.bInt]
  have hxe : (Bd.bInt na).isEmpty = false := by cases hh : (Bd.bInt na) with | nil => rw [hh] at hx0; simp at hx0 | cons _ _ => rfl
  obtain ⟨B0, hB0⟩ : ∃ W, (w.alloc (.cells #[.bool false, .int .i64 na, .string ⟨ta.toArray⟩] 44)).alloc (.cells #[.bool true, .int .i64 nb, .string ⟨tb.toArray⟩] 44) = W := ⟨_, rfl⟩
  have hbel : Hid (Below w.heap.size w B0) := hB0 ▸ ((Below.refl _ _).alloc (Nat.le_refl _) _).alloc (by simp) _
  have hblk : Hid (B0.heap[w.heap.size]? = some (.cells #[.bool false, .int .i64 na, .string ⟨ta.toArray⟩] 44 (0, 0)) ∧ B0.heap[w.heap.size + 1]? = some (.cells #[.bool true, .int .i64 nb, .string ⟨tb.toArray⟩] 44 (0, 0))) := by
    rw [← hB0]
    refine ⟨?_, ?_⟩
    · exact (Below.heap_alloc _ _ _ (by simp)).trans (heap_alloc_new w _)
    · have := heap_alloc_new (w.alloc (.cells #[.bool false, .int .i64 na, .string ⟨ta.toArray⟩] 44)) (.cells #[.bool true, .int .i64 nb, .string ⟨tb.toArray⟩] 44)
      rwa [World.size_alloc] at this
  have hsz : Hid (B0.heap.size = w.heap.size + 2) := by rw [Hid, ← hB0, World.size_alloc, World.size_alloc]
  have hcells : ∀ W : World, Below B0.heap.size B0 W → (W.cell? ⟨w.heap.size, 0, none⟩ = some (.bool false) ∧ W.cell? ⟨w.heap.size, 1, none⟩ = some (.int .i64 na) ∧ W.cell? ⟨w.heap.size, 2, none⟩ = some (.string ⟨ta.toArray⟩)) ∧
      W.cell? ⟨w.heap.size + 1, 0, none⟩ = some (.bool true) ∧ W.cell? ⟨w.heap.size + 1, 1, none⟩ = some (.int .i64 nb) ∧ W.cell? ⟨w.heap.size + 1, 2, none⟩ = some (.string ⟨tb.toArray⟩) := fun W hb => by
    have e1 := (hb.block w.heap.size (by rw [hsz.out]; omega)).trans hblk.out.1
    have e2 := (hb.block (w.heap.size + 1) (by rw [hsz.out]; omega)).trans hblk.out.2
    simp [World.cell?, e1, e2]
  have HCE := Lib.hid hcells
  have LB := Lib.hid (HW.out.below hbel.out)
  have HB0 := Lib.hid hB0
  clear hw hna hnb hcells hB0 hblk
  go_enter Tryd.func7, Tryd.ntmps7
  go_wp2_with fail
  rw [HB0.out]
  refine (awake_any _ LB.out).mono ?_
  rintro e w1 ⟨rfl, hb1⟩
  have B1 := Lib.hid hb1
  clear hb1
  obtain ⟨⟨a0, a1, a2⟩, b0, b1, b2⟩ := HCE.out _ B1.out
  go_wp2_with fail
  refine (beadInt_any na HNA.out _ (LB.out.below B1.out)).mono ?_
  rintro e w2 ⟨rfl, hb⟩
  have B2 := Lib.hid (bt B1.out hb)
  clear hb B1 a0 a1 a2 b0 b1 b2
  obtain ⟨⟨a0, a1, a2⟩, b0, b1, b2⟩ := HCE.out _ B2.out
  go_wp2_with fail
  refine (beadInt_any nb HNB.out _ (LB.out.below B2.out)).mono ?_
  rintro e w3 ⟨rfl, hb⟩
  have B3 := Lib.hid (bt B2.out hb)
  clear hb B2 a0 a1 a2 b0 b1 b2
  obtain ⟨⟨a0, a1, a2⟩, b0, b1, b2⟩ := HCE.out _ B3.out
  go_wp2_with fail
  refine (beadText_any tb (by omega) _ (LB.out.below B3.out)).mono ?_
  rintro e w4 ⟨rfl, hb⟩
  have B4 := Lib.hid (bt B3.out hb)
  clear hb B3 a0 a1 a2 b0 b1 b2
  obtain ⟨⟨a0, a1, a2⟩, b0, b1, b2⟩ := HCE.out _ B4.out
  have hx1 : (Bd.bInt na) ≠ [] := fun e => by rw [e] at hx0; simp at hx0
  have BB := Lib.hid (hbel.out.trans (B4.out.mono (by rw [hsz.out]; omega)))
  have LL := Lib.hid (LB.out.below B4.out)
  clear HX B4
  rw [show encT false na ta = (Bd.bInt na) from rfl] at HC
  generalize (Bd.bInt na) = x at *
  generalize (Bd.bText tb) = y at *
  have hs1 := str_to (P := Tryd.prog) x (min x.length y.length) (min (x.length : Int) (y.length : Int)) .i64 (by omega) (by omega) 9 Tryd.underlying9
  have hs2 := str_to (P := Tryd.prog) y (min x.length y.length) (min (x.length : Int) (y.length : Int)) .i64 (by omega) (by omega) 9 Tryd.underlying9
  generalize x.take (min x.length y.length) = x1 at *
  generalize y.take (min x.length y.length) = y1 at *
  obtain ⟨j, hmod, hjl⟩ := mod_nat cut (x.length : Int) (by omega) (by omega)
  have hjn : j < x.length := by omega
  have hs3 := str_to (P := Tryd.prog) x j j .i64 rfl (by omega) 9 Tryd.underlying9
  have hcut := Lib.hid (HC.out j hjn)
  have hzl : (x.take j).length ≤ 4200 := by rw [List.length_take]; omega
  clear HC
  generalize x.take j = z at *
  have hpre := HPRE.out
  go_wp2_with fail
  go_quiet (fail)
  have BD := Lib.hid (below_drewN BB.out nq)
  have LD := Lib.hid (LL.out.drewN nq)
  clear BB LL HPRE a0 a1 a2 b0 b1 b2
  generalize w4.drewN nq = v0 at *
  go_wp2_with fail
  refine (new_any z _).mono ?_
  rintro e u4 ⟨rfl, rfl⟩
  have B5 : Hid (Below w.heap.size w (v0.alloc (.cells #[.string ⟨z.toArray⟩, .bool false] 53))) := BD.out.alloc BD.out.size _
  have R5 := Lib.hid (Rd.new z v0)
  have hp := BD.out.size
  generalize v0.alloc (.cells #[.string ⟨z.toArray⟩, .bool false] 53) = v5 at *
  generalize v0.heap.size = p at *
  clear BD
  go_wp2_with fail
  refine (int_any _ _ _ R5.out (by simp only; omega) (HW.out.below B5.out)).mono ?_
  rintro e v6 ⟨rfl, h6⟩
  have B6 := Lib.hid (h6.bel B5.out hp)
  have R6 := Lib.hid h6.1
  clear h6 B5 R5
  go_wp2_with fail
  refine (new_any z _).mono ?_
  rintro e u4 ⟨rfl, rfl⟩
  have B7 : Hid (Below w.heap.size w (v6.alloc (.cells #[.string ⟨z.toArray⟩, .bool false] 53))) := B6.out.alloc B6.out.size _
  have R7 := Lib.hid (Rd.new z v6)
  have R7' : Hid (Rd (v6.alloc (.cells #[.string ⟨z.toArray⟩, .bool false] 53)) p (Bd.sInt (z, false)).2) := R6.out.keep (S := fun _ => False) (Keeps.alloc _ _ _) id
  have hp2 := B6.out.size
  have hpp := R6.out.lt
  generalize v6.alloc (.cells #[.string ⟨z.toArray⟩, .bool false] 53) = v7 at *
  generalize v6.heap.size = p2 at *
  clear B6 R6
  go_wp2_with fail
  refine (text_any _ _ _ _ R7.out (by simp only; omega) (HW.out.below B7.out)).mono ?_
  rintro e v8 ⟨rfl, h8⟩
  have B8 := Lib.hid (h8.bel B7.out hp2)
  have R8 := Lib.hid h8.1
  have R8' := Lib.hid (R7'.out.keep h8.2 (by omega))
  clear h8 B7 R7 R7'
  go_wp2_with fail
  refine (done_is _ _ 3 hcut.out.1 _ R8'.out).mono ?_
  rintro e v9 ⟨rfl, rfl⟩
  go_wp2_with fail
  refine (done_is _ _ 3 hcut.out.2 _ R8.out).mono ?_
  rintro e v9 ⟨rfl, rfl⟩
  go_wp2
  go_ret
  exact ⟨rfl, B8.out⟩
set_option maxRecDepth 20000 in
set_option maxHeartbeats 1600000 in
theorem apart_ii1 (na nb : Int) (ta tb : List UInt8) (cut : Int) (w : World) (hna : Bd.inR na) (hnb : Bd.inR nb) (hta : ta.length ≤ 4096) (htb : tb.length ≤ 4096) (hw : Lw w) (hse0 : Hid ((na == nb) = true)) :
    Calls Tryd.prog 7 #[.agg #[.bool false, .int .i64 na, .string ⟨ta.toArray⟩], .agg #[.bool false, .int .i64 nb, .string ⟨tb.toArray⟩], .int .i64 cut] w fun e w' => e = .returned (.bool true) ∧ Below w.heap.size w w' := by
  have HW := Lib.hid hw
  have HNA := Lib.hid hna
  have HNB := Lib.hid hnb
  have HPRE := Lib.hid (pre_ii hna hnb)
  have HX : Hid ((Bd.bInt na) = encT false na ta) := rfl
  have HC := Lib.hid (cut_off false na hna ta hta)
  have hxl : (Bd.bInt na).length ≤ 4200 := Nat.le_trans (bInt_length hna) (by omega)
  have hyl : (Bd.bInt nb).length ≤ 4200 := Nat.le_trans (bInt_length hnb) (by omega)
  have hx0 : 0 < (Bd.bInt na).length := by simp [Bd.bText, Bd.bInt]
  have hxe : (Bd.bInt na).isEmpty = false := by cases hh : (Bd.bInt na) with | nil => rw [hh] at hx0; simp at hx0 | cons _ _ => rfl
  obtain ⟨B0, hB0⟩ : ∃ W, (w.alloc (.cells #[.bool false, .int .i64 na, .string ⟨ta.toArray⟩] 44)).alloc (.cells #[.bool false, .int .i64 nb, .string ⟨tb.toArray⟩] 44) = W := ⟨_, rfl⟩
  have hbel : Hid (Below w.heap.size w B0) := hB0 ▸ ((Below.refl _ _).alloc (Nat.le_refl _) _).alloc (by simp) _
  have hblk : Hid (B0.heap[w.heap.size]? = some (.cells #[.bool false, .int .i64 na, .string ⟨ta.toArray⟩] 44 (0, 0)) ∧ B0.heap[w.heap.size + 1]? = some (.cells #[.bool false, .int .i64 nb, .string ⟨tb.toArray⟩] 44 (0, 0))) := by
    rw [← hB0]
    refine ⟨?_, ?_⟩
    · exact (Below.heap_alloc _ _ _ (by simp)).trans (heap_alloc_new w _)
    · have := heap_alloc_new (w.alloc (.cells #[.bool false, .int .i64 na, .string ⟨ta.toArray⟩] 44)) (.cells #[.bool false, .int .i64 nb, .string ⟨tb.toArray⟩] 44)
      rwa [World.size_alloc] at this
  have hsz : Hid (B0.heap.size = w.heap.size + 2) := by rw [Hid, ← hB0, World.size_alloc, World.size_alloc]
  have hcells : ∀ W : World, Below B0.heap.size B0 W → (W.cell? ⟨w.heap.size, 0, none⟩ = some (.bool false) ∧ W.cell? ⟨w.heap.size, 1, none⟩ = some (.int .i64 na) ∧ W.cell? ⟨w.heap.size, 2, none⟩ = some (.string ⟨ta.toArray⟩)) ∧
      W.cell? ⟨w.heap.size + 1, 0, none⟩ = some (.bool false) ∧ W.cell? ⟨w.heap.size + 1, 1, none⟩ = some (.int .i64 nb) ∧ W.cell? ⟨w.heap.size + 1, 2, none⟩ = some (.string ⟨tb.toArray⟩) := fun W hb => by
    have e1 := (hb.block w.heap.size (by rw [hsz.out]; omega)).trans hblk.out.1
    have e2 := (hb.block (w.heap.size + 1) (by rw [hsz.out]; omega)).trans hblk.out.2
    simp [World.cell?, e1, e2]
  have HCE := Lib.hid hcells
  have LB := Lib.hid (HW.out.below hbel.out)
  have HB0 := Lib.hid hB0
  clear hw hna hnb hcells hB0 hblk
  go_enter Tryd.func7, Tryd.ntmps7
  go_wp2_with fail
  rw [HB0.out]
  refine (awake_any _ LB.out).mono ?_
  rintro e w1 ⟨rfl, hb1⟩
  have B1 := Lib.hid hb1
  clear hb1
  obtain ⟨⟨a0, a1, a2⟩, b0, b1, b2⟩ := HCE.out _ B1.out
  go_wp2_with fail
  refine (beadInt_any na HNA.out _ (LB.out.below B1.out)).mono ?_
  rintro e w2 ⟨rfl, hb⟩
  have B2 := Lib.hid (bt B1.out hb)
  clear hb B1 a0 a1 a2 b0 b1 b2
  obtain ⟨⟨a0, a1, a2⟩, b0, b1, b2⟩ := HCE.out _ B2.out
  go_wp2_with fail
  refine (beadInt_any nb HNB.out _ (LB.out.below B2.out)).mono ?_
  rintro e w3 ⟨rfl, hb⟩
  have B3 := Lib.hid (bt B2.out hb)
  clear hb B2 a0 a1 a2 b0 b1 b2
  obtain ⟨⟨a0, a1, a2⟩, b0, b1, b2⟩ := HCE.out _ B3.out
  have hx1 : (Bd.bInt na) ≠ [] := fun e => by rw [e] at hx0; simp at hx0
  have BB := Lib.hid (hbel.out.trans (B3.out.mono (by rw [hsz.out]; omega)))
  have LL := Lib.hid (LB.out.below B3.out)
  clear HX B3
  rw [show encT false na ta = (Bd.bInt na) from rfl] at HC
  generalize (Bd.bInt na) = x at *
  generalize (Bd.bInt nb) = y at *
  have hs1 := str_to (P := Tryd.prog) x (min x.length y.length) (min (x.length : Int) (y.length : Int)) .i64 (by omega) (by omega) 9 Tryd.underlying9
  have hs2 := str_to (P := Tryd.prog) y (min x.length y.length) (min (x.length : Int) (y.length : Int)) .i64 (by omega) (by omega) 9 Tryd.underlying9
  generalize x.take (min x.length y.length) = x1 at *
  generalize y.take (min x.length y.length) = y1 at *
  obtain ⟨j, hmod, hjl⟩ := mod_nat cut (x.length : Int) (by omega) (by omega)
  have hjn : j < x.length := by omega
  have hs3 := str_to (P := Tryd.prog) x j j .i64 rfl (by omega) 9 Tryd.underlying9
  have hcut := Lib.hid (HC.out j hjn)
  have hzl : (x.take j).length ≤ 4200 := by rw [List.length_take]; omega
  clear HC
  generalize x.take j = z at *
  have hpre := HPRE.out
  have hse := hse0.out
  rw [hse] at hpre
  go_wp2_with fail
  go_quiet (fail)
  have BD := Lib.hid (below_drewN BB.out nq)
  have LD := Lib.hid (LL.out.drewN nq)
  clear BB LL HPRE a0 a1 a2 b0 b1 b2
  generalize w3.drewN nq = v0 at *
  go_wp2_with fail
  refine (new_any z _).mono ?_
  rintro e u4 ⟨rfl, rfl⟩
  have B5 : Hid (Below w.heap.size w (v0.alloc (.cells #[.string ⟨z.toArray⟩, .bool false] 53))) := BD.out.alloc BD.out.size _
  have R5 := Lib.hid (Rd.new z v0)
  have hp := BD.out.size
  generalize v0.alloc (.cells #[.string ⟨z.toArray⟩, .bool false] 53) = v5 at *
  generalize v0.heap.size = p at *
  clear BD
  go_wp2_with fail
  refine (int_any _ _ _ R5.out (by simp only; omega) (HW.out.below B5.out)).mono ?_
  rintro e v6 ⟨rfl, h6⟩
  have B6 := Lib.hid (h6.bel B5.out hp)
  have R6 := Lib.hid h6.1
  clear h6 B5 R5
  go_wp2_with fail
  refine (new_any z _).mono ?_
  rintro e u4 ⟨rfl, rfl⟩
  have B7 : Hid (Below w.heap.size w (v6.alloc (.cells #[.string ⟨z.toArray⟩, .bool false] 53))) := B6.out.alloc B6.out.size _
  have R7 := Lib.hid (Rd.new z v6)
  have R7' : Hid (Rd (v6.alloc (.cells #[.string ⟨z.toArray⟩, .bool false] 53)) p (Bd.sInt (z, false)).2) := R6.out.keep (S := fun _ => False) (Keeps.alloc _ _ _) id
  have hp2 := B6.out.size
  have hpp := R6.out.lt
  generalize v6.alloc (.cells #[.string ⟨z.toArray⟩, .bool false] 53) = v7 at *
  generalize v6.heap.size = p2 at *
  clear B6 R6
  go_wp2_with fail
  refine (text_any _ _ _ _ R7.out (by simp only; omega) (HW.out.below B7.out)).mono ?_
  rintro e v8 ⟨rfl, h8⟩
  have B8 := Lib.hid (h8.bel B7.out hp2)
  have R8 := Lib.hid h8.1
  have R8' := Lib.hid (R7'.out.keep h8.2 (by omega))
  clear h8 B7 R7 R7'
  go_wp2_with fail
  refine (done_is _ _ 3 hcut.out.1 _ R8'.out).mono ?_
  rintro e v9 ⟨rfl, rfl⟩
  go_wp2_with fail
  refine (done_is _ _ 3 hcut.out.2 _ R8.out).mono ?_
  rintro e v9 ⟨rfl, rfl⟩
  go_wp2
  go_ret
  exact ⟨rfl, B8.out⟩
set_option maxRecDepth 20000 in
set_option maxHeartbeats 1600000 in
theorem apart_ii0 (na nb : Int) (ta tb : List UInt8) (cut : Int) (w : World) (hna : Bd.inR na) (hnb : Bd.inR nb) (hta : ta.length ≤ 4096) (htb : tb.length ≤ 4096) (hw : Lw w) (hse0 : Hid ((na == nb) = false)) :
    Calls Tryd.prog 7 #[.agg #[.bool false, .int .i64 na, .string ⟨ta.toArray⟩], .agg #[.bool false, .int .i64 nb, .string ⟨tb.toArray⟩], .int .i64 cut] w fun e w' => e = .returned (.bool true) ∧ Below w.heap.size w w' := by
  have HW := Lib.hid hw
  have HNA := Lib.hid hna
  have HNB := Lib.hid hnb
  have HPRE := Lib.hid (pre_ii hna hnb)
  have HX : Hid ((Bd.bInt na) = encT false na ta) := rfl
  have HC := Lib.hid (cut_off false na hna ta hta)
  have hxl : (Bd.bInt na).length ≤ 4200 := Nat.le_trans (bInt_length hna) (by omega)
  have hyl : (Bd.bInt nb).length ≤ 4200 := Nat.le_trans (bInt_length hnb) (by omega)
  have hx0 : 0 < (Bd.bInt na).length := by simp [Bd.bText, Bd.bInt]
  have hxe : (Bd.bInt na).isEmpty = false := by cases hh : (Bd.bInt na) with | nil => rw [hh] at hx0; simp at hx0 | cons _ _ => rfl
  obtain ⟨B0, hB0⟩ : ∃ W, (w.alloc (.cells #[.bool false, .int .i64 na, .string ⟨ta.toArray⟩] 44)).alloc (.cells #[.bool false, .int .i64 nb, .string ⟨tb.toArray⟩] 44) = W := ⟨_, rfl⟩
  have hbel : Hid (Below w.heap.size w B0) := hB0 ▸ ((Below.refl _ _).alloc (Nat.le_refl _) _).alloc (by simp) _
  have hblk : Hid (B0.heap[w.heap.size]? = some (.cells #[.bool false, .int .i64 na, .string ⟨ta.toArray⟩] 44 (0, 0)) ∧ B0.heap[w.heap.size + 1]? = some (.cells #[.bool false, .int .i64 nb, .string ⟨tb.toArray⟩] 44 (0, 0))) := by
    rw [← hB0]
    refine ⟨?_, ?_⟩
    · exact (Below.heap_alloc _ _ _ (by simp)).trans (heap_alloc_new w _)
    · have := heap_alloc_new (w.alloc (.cells #[.bool false, .int .i64 na, .string ⟨ta.toArray⟩] 44)) (.cells #[.bool false, .int .i64 nb, .string ⟨tb.toArray⟩] 44)
      rwa [World.size_alloc] at this
  have hsz : Hid (B0.heap.size = w.heap.size + 2) := by rw [Hid, ← hB0, World.size_alloc, World.size_alloc]
  have hcells : ∀ W : World, Below B0.heap.size B0 W → (W.cell? ⟨w.heap.size, 0, none⟩ = some (.bool false) ∧ W.cell? ⟨w.heap.size, 1, none⟩ = some (.int .i64 na) ∧ W.cell? ⟨w.heap.size, 2, none⟩ = some (.string ⟨ta.toArray⟩)) ∧
      W.cell? ⟨w.heap.size + 1, 0, none⟩ = some (.bool false) ∧ W.cell? ⟨w.heap.size + 1, 1, none⟩ = some (.int .i64 nb) ∧ W.cell? ⟨w.heap.size + 1, 2, none⟩ = some (.string ⟨tb.toArray⟩) := fun W hb => by
    have e1 := (hb.block w.heap.size (by rw [hsz.out]; omega)).trans hblk.out.1
    have e2 := (hb.block (w.heap.size + 1) (by rw [hsz.out]; omega)).trans hblk.out.2
    simp [World.cell?, e1, e2]
  have HCE := Lib.hid hcells
  have LB := Lib.hid (HW.out.below hbel.out)
  have HB0 := Lib.hid hB0
  clear hw hna hnb hcells hB0 hblk
  go_enter Tryd.func7, Tryd.ntmps7
  go_wp2_with fail
  rw [HB0.out]
  refine (awake_any _ LB.out).mono ?_
  rintro e w1 ⟨rfl, hb1⟩
  have B1 := Lib.hid hb1
  clear hb1
  obtain ⟨⟨a0, a1, a2⟩, b0, b1, b2⟩ := HCE.out _ B1.out
  go_wp2_with fail
  refine (beadInt_any na HNA.out _ (LB.out.below B1.out)).mono ?_
  rintro e w2 ⟨rfl, hb⟩
  have B2 := Lib.hid (bt B1.out hb)
  clear hb B1 a0 a1 a2 b0 b1 b2
  obtain ⟨⟨a0, a1, a2⟩, b0, b1, b2⟩ := HCE.out _ B2.out
  go_wp2_with fail
  refine (beadInt_any nb HNB.out _ (LB.out.below B2.out)).mono ?_
  rintro e w3 ⟨rfl, hb⟩
  have B3 := Lib.hid (bt B2.out hb)
  clear hb B2 a0 a1 a2 b0 b1 b2
  obtain ⟨⟨a0, a1, a2⟩, b0, b1, b2⟩ := HCE.out _ B3.out
  have hx1 : (Bd.bInt na) ≠ [] := fun e => by rw [e] at hx0; simp at hx0
  have BB := Lib.hid (hbel.out.trans (B3.out.mono (by rw [hsz.out]; omega)))
  have LL := Lib.hid (LB.out.below B3.out)
  clear HX B3
  rw [show encT false na ta = (Bd.bInt na) from rfl] at HC
  generalize (Bd.bInt na) = x at *
  generalize (Bd.bInt nb) = y at *
  have hs1 := str_to (P := Tryd.prog) x (min x.length y.length) (min (x.length : Int) (y.length : Int)) .i64 (by omega) (by omega) 9 Tryd.underlying9
  have hs2 := str_to (P := Tryd.prog) y (min x.length y.length) (min (x.length : Int) (y.length : Int)) .i64 (by omega) (by omega) 9 Tryd.underlying9
  generalize x.take (min x.length y.length) = x1 at *
  generalize y.take (min x.length y.length) = y1 at *
  obtain ⟨j, hmod, hjl⟩ := mod_nat cut (x.length : Int) (by omega) (by omega)
  have hjn : j < x.length := by omega
  have hs3 := str_to (P := Tryd.prog) x j j .i64 rfl (by omega) 9 Tryd.underlying9
  have hcut := Lib.hid (HC.out j hjn)
  have hzl : (x.take j).length ≤ 4200 := by rw [List.length_take]; omega
  clear HC
  generalize x.take j = z at *
  have hpre := HPRE.out
  have hse := hse0.out
  rw [hse] at hpre
  go_wp2_with fail
  go_quiet (fail)
  have BD := Lib.hid (below_drewN BB.out nq)
  have LD := Lib.hid (LL.out.drewN nq)
  clear BB LL HPRE a0 a1 a2 b0 b1 b2
  generalize w3.drewN nq = v0 at *
  go_wp2_with fail
  refine (new_any z _).mono ?_
  rintro e u4 ⟨rfl, rfl⟩
  have B5 : Hid (Below w.heap.size w (v0.alloc (.cells #[.string ⟨z.toArray⟩, .bool false] 53))) := BD.out.alloc BD.out.size _
  have R5 := Lib.hid (Rd.new z v0)
  have hp := BD.out.size
  generalize v0.alloc (.cells #[.string ⟨z.toArray⟩, .bool false] 53) = v5 at *
  generalize v0.heap.size = p at *
  clear BD
  go_wp2_with fail
  refine (int_any _ _ _ R5.out (by simp only; omega) (HW.out.below B5.out)).mono ?_
  rintro e v6 ⟨rfl, h6⟩
  have B6 := Lib.hid (h6.bel B5.out hp)
  have R6 := Lib.hid h6.1
  clear h6 B5 R5
  go_wp2_with fail
  refine (new_any z _).mono ?_
  rintro e u4 ⟨rfl, rfl⟩
  have B7 : Hid (Below w.heap.size w (v6.alloc (.cells #[.string ⟨z.toArray⟩, .bool false] 53))) := B6.out.alloc B6.out.size _
  have R7 := Lib.hid (Rd.new z v6)
  have R7' : Hid (Rd (v6.alloc (.cells #[.string ⟨z.toArray⟩, .bool false] 53)) p (Bd.sInt (z, false)).2) := R6.out.keep (S := fun _ => False) (Keeps.alloc _ _ _) id
  have hp2 := B6.out.size
  have hpp := R6.out.lt
  generalize v6.alloc (.cells #[.string ⟨z.toArray⟩, .bool false] 53) = v7 at *
  generalize v6.heap.size = p2 at *
  clear B6 R6
  go_wp2_with fail
  refine (text_any _ _ _ _ R7.out (by simp only; omega) (HW.out.below B7.out)).mono ?_
  rintro e v8 ⟨rfl, h8⟩
  have B8 := Lib.hid (h8.bel B7.out hp2)
  have R8 := Lib.hid h8.1
  have R8' := Lib.hid (R7'.out.keep h8.2 (by omega))
  clear h8 B7 R7 R7'
  go_wp2_with fail
  refine (done_is _ _ 3 hcut.out.1 _ R8'.out).mono ?_
  rintro e v9 ⟨rfl, rfl⟩
  go_wp2_with fail
  refine (done_is _ _ 3 hcut.out.2 _ R8.out).mono ?_
  rintro e v9 ⟨rfl, rfl⟩
  go_wp2
  go_ret
  exact ⟨rfl, B8.out⟩

end Go.Proofs.YtikngajopmogcaaDoor
