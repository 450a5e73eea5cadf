/-
  BeadBack: plainly, and the walk.
  Conditions: the library's variables hold what they are laid with.
-/
import Derived.Test.YtikngajopmogcaaDoorBlf
import Derived.Test.YtikngajopmogcaaDoorBla
import Derived.Test.YtikngajopmogcaaDoorQt
import Derived.Deep.RegionHeld3
set_option linter.unusedVariables false
set_option linter.unusedSimpArgs false
namespace Go.Proofs.YtikngajopmogcaaDoor
open Go.RowKit

/-- Lists of one text each. -/
def tl (ts : List (List UInt8)) : List UInt8 := (ts.map fun x => 108 :: (Bd.bText x ++ [101])).flatten
theorem tl_take (ts : List (List UInt8)) (k : Nat) (h : k < ts.length) : tl (ts.take (k + 1)) = tl (ts.take k) ++ (108 :: (Bd.bText (ts.getD k []) ++ [101])) := by
  unfold tl
  rw [List.take_succ_eq_append_getElem h, List.map_append, List.flatten_append, show ts.getD k [] = ts[k] by simp [List.getD, h]]
  simp only [List.map_cons, List.map_nil, List.flatten_cons, List.flatten_nil, List.append_nil]
theorem tl_drop (ts : List (List UInt8)) (k : Nat) (h : k < ts.length) : tl (ts.drop k) = 108 :: (Bd.bText (ts.getD k []) ++ (101 :: tl (ts.drop (k + 1)))) := by
  unfold tl
  rw [List.drop_eq_getElem_cons h, show ts.getD k [] = ts[k] by simp [List.getD, h]]
  simp only [List.map_cons, List.flatten_cons, List.cons_append, List.append_assoc, List.nil_append]
theorem flat_drop (zs : List Int) (k : Nat) (h : k < zs.length) : flat (zs.drop k) = Bd.bInt (zs.getD k 0) ++ flat (zs.drop (k + 1)) := by
  rw [List.drop_eq_getElem_cons h, flat_cons]
  simp [List.getD, h]
theorem tl_length (ts : List (List UInt8)) (h : ∀ t ∈ ts, t.length ≤ 4096) : (tl ts).length ≤ 4202 * ts.length := by
  induction ts with
  | nil => simp [tl]
  | cons t ts ih =>
    have h1 := bText_length t (h t (by simp))
    have h2 := ih (fun x hx => h x (by simp [hx]))
    have e : tl (t :: ts) = (108 :: (Bd.bText t ++ [101])) ++ tl ts := by simp [tl]
    rw [e, List.length_append, List.length_cons, List.length_append, List.length_cons, List.length_cons, List.length_nil]
    omega
theorem int_of (p : Nat) {n : Int} (r : List UInt8) (hn : Bd.inR n) (w : World) (h : Rd w p (Bd.bInt n ++ r, false)) (hl : (Bd.bInt n ++ r).length < 4294967281) (hw : Lw w) :
    Calls Tryd.prog 18 #[.pointer (some ⟨p, 0, none⟩)] w fun e w' => e = .returned (.int .i64 n) ∧ Rds w p (r, false) w' := by
  have := int_any p _ w h hl hw
  rw [Bd.sInt_of r hn] at this
  exact this
theorem text_of (p : Nat) (t r : List UInt8) (ht : t.length ≤ 4096) (w : World) (h : Rd w p (Bd.bText t ++ r, false)) (hl : (Bd.bText t ++ r).length < 4294967281) (hw : Lw w) :
    Calls Tryd.prog 20 #[.pointer (some ⟨p, 0, none⟩), .int .i64 4096] w fun e w' => e = .returned (.string ⟨t.toArray⟩) ∧ Rds w p (r, false) w' := by
  have := text_any p 4096 _ w h hl hw
  rw [Bd.sText_of t r (by omega) (by omega)] at this
  exact this
theorem open_of (p : Nat) (r : List UInt8) (w : World) (h : Rd w p (108 :: r, false)) : Calls Tryd.prog 22 #[.pointer (some ⟨p, 0, none⟩)] w fun e w' => e = .returned (.tuple #[]) ∧ Rds w p (r, false) w' := by
  have := open_any p _ w h
  rwa [Bd.sSign_of] at this
theorem close_of (p : Nat) (r : List UInt8) (w : World) (h : Rd w p (101 :: r, false)) : Calls Tryd.prog 26 #[.pointer (some ⟨p, 0, none⟩)] w fun e w' => e = .returned (.tuple #[]) ∧ Rds w p (r, false) w' := by
  have := close_any p _ w h
  rwa [Bd.sSign_of] at this
theorem more_no (p : Nat) (r : List UInt8) (w : World) (h : Rd w p (101 :: r, false)) : Calls Tryd.prog 24 #[.pointer (some ⟨p, 0, none⟩)] w fun e w' => e = .returned (.bool false) ∧ w = w' := by
  have := more_any p _ w h
  rwa [show Bd.sMore (101 :: r, false) = false by simp [Bd.sMore]] at this
theorem more_yes (p : Nat) (n : Int) (r : List UInt8) (w : World) (h : Rd w p (Bd.bInt n ++ r, false)) : Calls Tryd.prog 24 #[.pointer (some ⟨p, 0, none⟩)] w fun e w' => e = .returned (.bool true) ∧ w = w' := by
  have := more_any p _ w h
  rwa [Bd.sMore_int] at this
theorem done_of (p : Nat) (w : World) (h : Rd w p ([], false)) : Calls Tryd.prog 28 #[.pointer (some ⟨p, 0, none⟩)] w fun e w' => e = .returned (.int .i64 0) ∧ w = w' := done_is _ _ 0 rfl w h
theorem Rds.cell {w w' : World} {p : Nat} {q : Bd.St} (h : Rds w p q w') {g o : Nat} {v : Value} (hg : g < w.heap.size) (hne : g ≠ p) (hc : w.cell? ⟨g, o, none⟩ = some v) : w'.cell? ⟨g, o, none⟩ = some v := by
  unfold World.cell? at hc ⊢
  simp only at hc ⊢
  rw [h.2.block g hg hne]
  exact hc

set_option maxRecDepth 20000 in
set_option maxHeartbeats 3200000 in
theorem back_walk (v u : Value) (zs : List Int) (ts : List (List UInt8)) (w : World) (hz : Ints w v zs) (hu : Txts w u ts) (hm : zs.length ≤ maxLen) (hmt : ts.length ≤ maxLen) (hr : ∀ z ∈ zs, Bd.inR z) (hrt : ∀ t ∈ ts, t.length ≤ maxLen) (hw : Lw w) :
    Calls Tryd.prog 5 #[v, u] w fun e w' => e = .returned (.bool true) ∧ Below w.heap.size w w' := by
  have HZ := Lib.hid hz
  have HU := Lib.hid hu
  obtain ⟨a, cap, rfl, _⟩ := hz
  obtain ⟨au, capu, rfl, _⟩ := hu
  unfold maxLen at hm hmt
  have HW := Lib.hid hw
  have HR := Lib.hid hr
  have HT := Lib.hid hrt
  clear hw hr hrt
  rcases (Decidable.em (zs.length ≤ 50 ∧ ts.length ≤ 50)).symm with h50 | h50
  · go_enter Tryd.func5, Tryd.ntmps5
    go_wp2_with fail
    refine (awake_any _ HW.out).mono ?_
    rintro e w1 ⟨rfl, hb1⟩
    have B1 := Lib.hid hb1
    clear hb1
    go_wp2
    all_goals first | (exfalso; omega) | (go_ret; exact ⟨rfl, B1.out⟩)
  obtain ⟨h50a, h50b⟩ := h50
  have hfl := flat_length zs HR.out
  go_enter Tryd.func5, Tryd.ntmps5
  go_wp2_with fail
  refine (awake_any _ HW.out).mono ?_
  rintro e w1 ⟨rfl, hb1⟩
  have B1 := Lib.hid hb1
  clear hb1
  go_wp2
  go_loopw [5, 6] (fun s i wr => ∃ k : Nat, i = .int .i64 k ∧ k ≤ zs.length ∧ s = .string ⟨(flat (zs.take k)).toArray⟩ ∧ Below w.heap.size w wr) (fun s i _ => zs.length - (intOf i).toNat)
  case atStart => exact ⟨0, rfl, by omega, rfl, B1.out⟩
  case round =>
    obtain ⟨k, rfl, hk, rfl, hb⟩ := hrel
    have HB := Lib.hid hb
    clear hb B1
    by_cases hlt : k < zs.length
    · obtain ⟨a', cap', he, hcells⟩ := HZ.out.kept HB.out
      injection he with he1 he2 he3
      subst he1 he3
      obtain ⟨g, off, rfl, hg, hc1⟩ := hcells k hlt
      clear hcells he2
      have HF := Lib.hid (flat_take zs k hlt)
      have hz' := Lib.hid (HR.out (zs.getD k 0) (by simp [List.getD, hlt]))
      have hl1 := flat_length (zs.take k) (fun x hx => HR.out x (List.mem_of_mem_take hx))
      have hl2 := bInt_length hz'.out
      rw [List.length_take] at hl1
      generalize zs.getD k 0 = z at *
      generalize flat (zs.take k) = t at *
      go_wp2_with fail
      refine (beadInt_any z hz'.out _ (HW.out.below HB.out)).mono ?_
      rintro e w2 ⟨rfl, hb2⟩
      have B2 := Lib.hid (bt HB.out hb2)
      clear hb2
      generalize Bd.bInt z = bz at *
      go_wp2
      go_roundw
      case rel => exact ⟨k + 1, by go_num, by omega, by rw [HF.out], B2.out⟩
      case measure => simp [intOf]; omega
    · obtain rfl : k = zs.length := by omega
      rw [List.take_length]
      go_wp2
      go_loopw [7, 8] (fun s i wr => ∃ k : Nat, i = .int .i64 k ∧ k ≤ ts.length ∧ s = .string ⟨(tl (ts.take k)).toArray⟩ ∧ (∀ t ∈ ts.take k, t.length ≤ 4096) ∧ Below w.heap.size w wr) (fun s i _ => ts.length - (intOf i).toNat)
      case atStart => exact ⟨0, rfl, by omega, rfl, by simp, HB.out⟩
      case round =>
        obtain ⟨k, rfl, hk, rfl, hsm, hb⟩ := hrel
        have HB2 := Lib.hid hb
        clear hb HB
        by_cases hlt : k < ts.length
        · obtain ⟨a', cap', he, hcells⟩ := HU.out.kept HB2.out
          injection he with he1 he2 he3
          subst he1 he3
          obtain ⟨g, off, rfl, hg, hc1⟩ := hcells k hlt
          clear hcells he2
          have HF := Lib.hid (tl_take ts k hlt)
          have hxm := HT.out (ts.getD k []) (by simp [List.getD, hlt])
          unfold maxLen at hxm
          have hl1 := tl_length (ts.take k) hsm
          rw [List.length_take] at hl1
          have hsm2 : (ts.getD k []).length ≤ 4096 → ∀ t ∈ ts.take (k + 1), t.length ≤ 4096 := fun h t ht => by
            rw [List.take_succ_eq_append_getElem hlt, List.mem_append] at ht
            rcases ht with ht | ht
            · exact hsm t ht
            · simp at ht; subst ht; simpa [List.getD, hlt] using h
          have HS := Lib.hid hsm2
          clear hsm hsm2
          generalize ts.getD k [] = x at *
          generalize tl (ts.take k) = t at *
          by_cases hx : x.length ≤ 4096
          · have hl2 := bText_length x hx
            go_wp2_with fail
            refine (beadText_any x (by omega) _ (HW.out.below HB2.out)).mono ?_
            rintro e w2 ⟨rfl, hb2⟩
            have B2 := Lib.hid (bt HB2.out hb2)
            clear hb2
            generalize Bd.bText x = bx at *
            go_wp2_with fail
            have B3 : Hid (Below w.heap.size w (w2.alloc (.cells #[.string ⟨bx.toArray⟩] 9))) := B2.out.alloc B2.out.size _
            refine (beadList_any _ [bx] _ (strs_new w2 [bx] 9) (by simp) (by simp; omega)).mono ?_
            rintro e w3 ⟨rfl, hb3⟩
            have B4 := Lib.hid (bt B3.out hb3)
            clear hb3 B2 B3
            rw [show (List.flatten [bx]) = bx by simp]
            go_wp2
            go_roundw
            case rel => exact ⟨k + 1, by go_num, by omega, by rw [HF.out], HS.out hx, B4.out⟩
            case measure => simp [intOf]; omega
          · go_wp2
            go_ret
            exact ⟨rfl, HB2.out⟩
        · obtain rfl : k = ts.length := by omega
          rw [List.take_length] at hsm ⊢
          have htl := tl_length ts hsm
          have HS := Lib.hid hsm
          have HSD : Hid (∀ k, (tl (ts.drop k)).length ≤ 210100) := fun k => by
            have := tl_length (ts.drop k) (fun t ht => HS.out t (List.mem_of_mem_drop ht))
            rw [List.length_drop] at this
            omega
          have HFD : Hid (∀ k, (flat (zs.drop k)).length ≤ 1150) := fun k => by
            have := flat_length (zs.drop k) (fun t ht => HR.out t (List.mem_of_mem_drop ht))
            rw [List.length_drop] at this
            omega
          clear hsm
          have hF0 : Hid (flat (zs.drop 0) = flat zs) := rfl
          have hT0 : Hid (tl (ts.drop 0) = tl ts) := rfl
          generalize tl ts = T at *
          generalize flat zs = F at *
          go_wp2_with fail
          have B3 : Hid (Below w.heap.size w (wr.alloc (.cells #[.string ⟨F.toArray⟩] 9))) := HB2.out.alloc HB2.out.size _
          refine (beadList_any _ [F] _ (strs_new wr [F] 9) (by simp) (by simp; omega)).mono ?_
          rintro e w3 ⟨rfl, hb3⟩
          have B4 := Lib.hid (bt B3.out hb3)
          clear hb3 HB2 B3
          rw [show (List.flatten [F]) = F by simp]
          go_wp2_with fail
          refine (new_any (108 :: (F ++ 101 :: T)) _).mono ?_
          rintro e w4 ⟨rfl, rfl⟩
          have B5 : Hid (Below w.heap.size w (w3.alloc (.cells #[.string ⟨(108 :: (F ++ 101 :: T)).toArray⟩, .bool false] 53))) := B4.out.alloc B4.out.size _
          have R5 := Lib.hid (Rd.new (108 :: (F ++ 101 :: T)) w3)
          have hp := B4.out.size
          generalize w3.alloc (.cells #[.string ⟨(108 :: (F ++ 101 :: T)).toArray⟩, .bool false] 53) = w5 at *
          generalize w3.heap.size = p at *
          clear B4
          go_wp2_with fail
          refine (open_of _ _ _ R5.out).mono ?_
          rintro e w6 ⟨rfl, h6⟩
          have B6 := Lib.hid (h6.bel B5.out hp)
          have R6 : Hid (Rd w6 p (flat (zs.drop 0) ++ 101 :: T, false)) := by rw [hF0.out]; exact h6.1
          clear h6 B5 R5
          go_wp2
          go_loopw [10] (fun i wr => ∃ k : Nat, i = .int .i64 k ∧ k ≤ zs.length ∧ Rd wr p (flat (zs.drop k) ++ 101 :: T, false) ∧ Below w.heap.size w wr) (fun i _ => zs.length - (intOf i).toNat)
          case atStart => exact ⟨0, rfl, by omega, R6.out, B6.out⟩
          case round =>
            obtain ⟨k, rfl, hk, hr, hb⟩ := hrel
            have HB7 := Lib.hid hb
            have HR7 := Lib.hid hr
            clear hb hr R6 B6
            by_cases hlt : k < zs.length
            · obtain ⟨a', cap', he, hcells⟩ := HZ.out.kept HB7.out
              injection he with he1 he2 he3
              subst he1 he3
              obtain ⟨g, off, rfl, hg, hc1⟩ := hcells k hlt
              have hgw : Hid (g < w.heap.size) := by
                obtain ⟨a2, cap2, he, hcells2⟩ := HZ.out
                injection he with he1 he2 he3
                subst he1 he3
                obtain ⟨g2, off2, e2, hg2, _⟩ := hcells2 k hlt
                cases e2
                exact hg2
              clear hcells he2
              have hz' := Lib.hid (HR.out (zs.getD k 0) (by simp [List.getD, hlt]))
              have hf := HFD.out (k + 1)
              have hl2 := bInt_length hz'.out
              have R7 : Hid (Rd wr p (Bd.bInt (zs.getD k 0) ++ (flat (zs.drop (k + 1)) ++ 101 :: T), false)) := by
                rw [Hid, ← List.append_assoc, ← flat_drop zs k hlt]; exact HR7.out
              clear HR7
              generalize zs.getD k 0 = z at *
              generalize hG : flat (zs.drop (k + 1)) = G at *
              have hGl : (Bd.bInt z ++ (G ++ 101 :: T)).length < 4294967281 := by simp; omega
              have R7d : Hid (Rd wr.drew p (Bd.bInt z ++ (G ++ 101 :: T), false)) := R7.out
              have B7d : Hid (Below w.heap.size w wr.drew) := below_drewN HB7.out 1
              have hc1d : wr.drew.cell? ⟨g, off + k, none⟩ = some (.int .i64 z) := hc1
              go_wp2_with fail
              go_region_held3 (fun W => W.cell? ⟨g, off + k, none⟩ = some (.int .i64 z)) (first | assumption | exact hc1) (first
                | (go_at_call 24; refine (more_yes p z _ _ R7d.out).mono ?_; rintro e w8 ⟨rfl, rfl⟩)
                | (go_at_call 18; refine (int_of p _ hz'.out _ R7d.out hGl (HW.out.below B7d.out)).mono ?_; rintro e w8 ⟨rfl, h8⟩; have hc8 := h8.cell (Nat.lt_of_lt_of_le hgw.out B7d.out.size) (by have := hgw.out; omega) hc1d; have B8 := Lib.hid (h8.bel B7d.out hp); have R8 := Lib.hid h8.1; clear h8))
              go_wp2
              go_roundw
              case rel => exact ⟨k + 1, by go_num, by omega, by rw [hG]; exact R8.out, B8.out⟩
              case measure => simp [intOf]; omega
            · obtain rfl : k = zs.length := by omega
              have R7 : Hid (Rd wr p (101 :: T, false)) := by
                have := HR7.out
                rwa [List.drop_length] at this
              clear HR7
              go_wp2_with fail
              refine (more_no p _ _ R7.out).mono ?_
              rintro e w8 ⟨rfl, rfl⟩
              go_wp2_with fail
              refine (close_of p _ _ R7.out).mono ?_
              rintro e w8 ⟨rfl, h8⟩
              have B8 := Lib.hid (h8.bel HB7.out hp)
              have R8 : Hid (Rd w8 p (tl (ts.drop 0), false)) := by rw [hT0.out]; exact h8.1
              clear h8 R7 HB7
              go_wp2
              go_loopw [11] (fun i wr => ∃ k : Nat, i = .int .i64 k ∧ k ≤ ts.length ∧ Rd wr p (tl (ts.drop k), false) ∧ Below w.heap.size w wr) (fun i _ => ts.length - (intOf i).toNat)
              case atStart => exact ⟨0, rfl, by omega, R8.out, B8.out⟩
              case round =>
                obtain ⟨k, rfl, hk, hr, hb⟩ := hrel
                have HB9 := Lib.hid hb
                have HR9 := Lib.hid hr
                clear hb hr R8 B8
                by_cases hlt : k < ts.length
                · obtain ⟨a', cap', he, hcells⟩ := HU.out
                  injection he with he1 he2 he3
                  subst he1 he3
                  obtain ⟨g, off, rfl, hg, hc0⟩ := hcells k hlt
                  have hgw := Lib.hid hg
                  clear hcells he2
                  have hx := HS.out (ts.getD k []) (by simp [List.getD, hlt])
                  have hf := HSD.out (k + 1)
                  have hl2 := bText_length _ hx
                  have R9 : Hid (Rd wr p (108 :: (Bd.bText (ts.getD k []) ++ (101 :: tl (ts.drop (k + 1)))), false)) := by
                    rw [Hid, ← tl_drop ts k hlt]; exact HR9.out
                  clear HR9
                  generalize ts.getD k [] = x at *
                  generalize hG : tl (ts.drop (k + 1)) = G at *
                  have hGl : (Bd.bText x ++ (101 :: G)).length < 4294967281 := by simp; omega
                  go_wp2_with fail
                  refine (open_of p _ _ R9.out).mono ?_
                  rintro e w10 ⟨rfl, h10⟩
                  have B10 := Lib.hid (h10.bel HB9.out hp)
                  have R10 := Lib.hid h10.1
                  clear h10 R9 HB9
                  have R10d : Hid (Rd w10.drew p (Bd.bText x ++ (101 :: G), false)) := R10.out
                  have B10d : Hid (Below w.heap.size w w10.drew) := below_drewN B10.out 1
                  have hc1 : w10.cell? ⟨g, off + k, none⟩ = some (.string ⟨x.toArray⟩) := (B10.out.cell (p := ⟨g, off + k, none⟩) hgw.out).trans hc0
                  have hc1d : w10.drew.cell? ⟨g, off + k, none⟩ = some (.string ⟨x.toArray⟩) := hc1
                  go_wp2_with fail
                  go_region_held3 (fun W => W.cell? ⟨g, off + k, none⟩ = some (.string ⟨x.toArray⟩)) (first | assumption | exact hc1) (first
                    | (go_at_call 20; refine (text_of p _ _ hx _ R10d.out hGl (HW.out.below B10d.out)).mono ?_; rintro e w11 ⟨rfl, h11⟩; have hc8 := h11.cell (Nat.lt_of_lt_of_le hgw.out B10d.out.size) (by have := hgw.out; omega) hc1d; have B11 := Lib.hid (h11.bel B10d.out hp); have R11 := Lib.hid h11.1; clear h11)
                    | (go_at_call 24; refine (more_no p _ _ R11.out).mono ?_; rintro e w12 ⟨rfl, rfl⟩))
                  go_wp2_with fail
                  refine (close_of p _ _ R11.out).mono ?_
                  rintro e w13 ⟨rfl, h13⟩
                  have B13 := Lib.hid (h13.bel B11.out hp)
                  have R13 := Lib.hid h13.1
                  clear h13
                  go_wp2
                  go_roundw
                  case rel => exact ⟨k + 1, by go_num, by omega, by rw [hG]; exact R13.out, B13.out⟩
                  case measure => simp [intOf]; omega
                · obtain rfl : k = ts.length := by omega
                  have R9 : Hid (Rd wr p ([], false)) := by
                    have := HR9.out
                    rwa [List.drop_length] at this
                  go_wp2_with fail
                  refine (done_of p _ R9.out).mono ?_
                  rintro e w10 ⟨rfl, rfl⟩
                  go_wp2
                  go_ret
                  exact ⟨rfl, HB9.out⟩

end Go.Proofs.YtikngajopmogcaaDoor
