/-
  CrateLess, walked.
  Conditions: the library's variables hold what they are laid with.
-/
import Derived.Test.YtegaonoobjeneaaDoorCld
import Derived.Test.YtegaonoobjeneaaDoorClg
import Derived.Deep.RegionHeld3
import Derived.Deep.RegionLaw
set_option linter.unusedVariables false
set_option linter.unusedSimpArgs false
namespace Go.Proofs.YtegaonoobjeneaaDoor
open Go.RowKit

def anyTo (zs : List Int) (i : Nat) (k : Nat) : Bool := (zs.take k).any fun z => z == (i : Int)
theorem anyTo_succ (zs : List Int) (i k : Nat) (h : k < zs.length) : anyTo zs i (k + 1) = (anyTo zs i k || zs.getD k 0 == (i : Int)) := by
  rw [anyTo, anyTo, List.take_succ_eq_append_getElem h, List.any_append]
  simp [List.getD, h]
def lessN (zs : List Int) (l : List Cr.Rec) : Nat → List Cr.Rec
  | 0 => []
  | k + 1 => lessN zs l k ++ (if anyTo zs k zs.length then [] else (l[k]?).toList)
theorem lessN_sub (zs : List Int) (l : List Cr.Rec) : ∀ k, (lessN zs l k).Sublist (l.take k) := by
  intro k
  induction k with
  | zero => exact List.Sublist.slnil
  | succ k ih =>
    rw [lessN, List.take_add_one]
    refine ih.append ?_
    split
    · exact List.nil_sublist _
    · exact List.Sublist.refl _
theorem recCells_snoc2 (l : List Cr.Rec) (x : Cr.Rec) : recCells (l ++ [x]) = recCells l ++ [.int .i64 x.off, .string ⟨x.key.toArray⟩, .string ⟨x.val.toArray⟩, .bool x.gone] := by simp [recCells]
set_option maxRecDepth 20000 in
set_option maxHeartbeats 12800000 in
theorem less_walk (b : Cr.Batch) (hok : BatOk b) (rv : Value) (zv : Value) (zs : List Int) (w : World) (h : Recs w rv b.recs) (hz : Ints w zv zs) (hzl : zs.length ≤ maxLen) (hzr : ∀ z ∈ zs, -9223372036854775808 ≤ z ∧ z ≤ 9223372036854775807) (hw : Lw w) :
    Calls Tryd.prog 8 #[batV b rv, zv] w fun e w' => e = .returned (.bool true) ∧ Below w.heap.size w w' := by
  have HW := Lib.hid hw
  have HZ := Lib.hid h
  have HI := Lib.hid hz
  have HO := Lib.hid hok
  have hl := hok.2.2.2.2.2.1
  unfold maxLen at hl hzl
  obtain ⟨a, cap, rfl⟩ := h.form
  obtain ⟨za, zcap, rfl, -⟩ := id hz
  have B0 : Hid (Below w.heap.size w (w.alloc (.cells #[.int .i64 b.base, .int .i64 b.count, .int .i64 b.prod, .int .i64 b.seq, .int .i64 b.time, .slice a b.recs.length cap] 24))) := (Below.refl _ _).alloc (Nat.le_refl _) _
  have C0 := Lib.hid (batCl w b (.slice a b.recs.length cap))
  clear h hw hok hz hzr
  unfold batV
  go_enter Tryd.func8, Tryd.ntmps8
  go_wp2_with fail
  refine (awake_any _ (HW.out.below B0.out)).mono ?_
  rintro e w1 ⟨rfl, hb1⟩
  have B1 := Lib.hid (bt B0.out hb1)
  have C1 := Lib.hid (C0.out.below hb1)
  clear hb1 C0 B0
  obtain ⟨c0, c1, c2, c3, c4, c5⟩ := C1.out.cell6
  have HGR := Lib.hid (great_any b.recs HO.out.2.2.2.2.2.2 HO.out.2.2.2.2.2.1 _ w1 (HZ.out.kept B1.out))
  go_wp2_with fail
  refine HGR.out.mono ?_
  rintro e w1 ⟨rfl, rfl⟩
  cases hg : greatB b.recs with
  | true =>
    go_wp2
    go_ret
    exact ⟨rfl, B1.out⟩
  | false =>
    clear hg HGR
    have HGD := Lib.hid (good_any b HO.out _ w1 (HZ.out.kept B1.out))
    unfold batV at HGD
    go_wp2_with fail
    refine HGD.out.mono ?_
    rintro e w2 ⟨rfl, hb2⟩
    have B2 := Lib.hid (bt B1.out hb2)
    have C2 := Lib.hid (C1.out.below hb2)
    clear hb2 C1 B1 HGD c0 c1 c2 c3 c4 c5
    cases hg : Cr.good b with
    | false =>
      go_wp2
      go_ret
      exact ⟨rfl, B2.out⟩
    | true =>
      by_cases hz100 : 100 < zs.length
      · clear hg
        go_wp2
        go_ret
        exact ⟨rfl, B2.out⟩
      · have HG := Lib.hid hg
        have hl8 := (Cr.enc_len hg).2.2
        have hct := (Cr.good_nums hg).2.2.2.2.2.1
        have hct0 := (Cr.good_nums hg).2.2.2.2.1
        clear hg
        obtain ⟨c0, c1, c2, c3, c4, c5⟩ := C2.out.cell6
        have NC := Lib.hid (batCl w2 b (.slice a b.recs.length cap))
        have CC := Lib.hid (C2.out.alloc (.cells #[.int .i64 b.base, .int .i64 b.count, .int .i64 b.prod, .int .i64 b.seq, .int .i64 b.time, .slice a b.recs.length cap] 24))
        have BC : Hid (Below w.heap.size w (w2.alloc (.cells #[.int .i64 b.base, .int .i64 b.count, .int .i64 b.prod, .int .i64 b.seq, .int .i64 b.time, .slice a b.recs.length cap] 24))) := B2.out.alloc B2.out.size _
        have hne : w2.heap.size ≠ w.heap.size := by have := C2.out.lt; omega
        have hcw := B2.out.size
        go_upto_region 6 with (fail)
        clear c0 c1 c2 c3 c4 c5 C2 B2
        generalize w2.alloc (.cells #[.int .i64 b.base, .int .i64 b.count, .int .i64 b.prod, .int .i64 b.seq, .int .i64 b.time, .slice a b.recs.length cap] 24) = w3 at *
        have hcb3 := NC.out.lt
        generalize w2.heap.size = cb at *
        obtain ⟨d0, d1, d2, d3, d4, d5⟩ := NC.out.cell6
        have f5 := NC.out.free 5
        have N4 : Hid (Cl (w3.setCell ⟨cb, 5, none⟩ (.slice none 0 0)) cb [.int .i64 b.base, .int .i64 b.count, .int .i64 b.prod, .int .i64 b.seq, .int .i64 b.time, .slice none 0 0] 24) := NC.out.set 5 _
        have C4 := Lib.hid (CC.out.other ⟨cb, 5, none⟩ (.slice none 0 0) hne)
        have B4 := Lib.hid (BC.out.setCell (p := ⟨cb, 5, none⟩) hcw (.slice none 0 0))
        have hs4 : (w3.setCell ⟨cb, 5, none⟩ (.slice none 0 0)).heap.size = w3.heap.size := by simp [World.setCell]
        have hcb4 : cb < (w3.setCell ⟨cb, 5, none⟩ (.slice none 0 0)).heap.size := by omega
        clear hs4 hcb3
        go_upto_region 7 with (fail)
        clear d0 d1 d2 d3 d4 d5 f5 NC CC BC
        generalize w3.setCell ⟨cb, 5, none⟩ (.slice none 0 0) = w4 at *
        go_wp2_with fail
        go_loopw [6] (fun i wr => ∃ (k : Nat) (v : Value), i = .int .i64 k ∧ k ≤ b.recs.length ∧ wr.ownsRow w4.heap.size 41 4 v (lessN zs b.recs k).length (recCells (lessN zs b.recs k)) ∧ Cl wr w.heap.size [.int .i64 b.base, .int .i64 b.count, .int .i64 b.prod, .int .i64 b.seq, .int .i64 b.time, .slice a b.recs.length cap] 24 ∧
          Cl wr cb [.int .i64 b.base, .int .i64 b.count, .int .i64 b.prod, .int .i64 b.seq, .int .i64 b.time, v] 24 ∧ Below w.heap.size w wr ∧ w4.heap.size ≤ wr.heap.size) (fun i _ => b.recs.length - (intOf i).toNat)
        case atStart => exact ⟨0, _, rfl, by omega, ⟨rfl, .inl ⟨rfl, rfl⟩⟩, C4.out, N4.out, B4.out, Nat.le_refl _⟩
        case round =>
          obtain ⟨k, v, rfl, hk, hown, hcc, hcn, hb, hbs⟩ := hrel
          have O5 := Lib.hid hown
          have C5 := Lib.hid hcc
          have N5 := Lib.hid hcn
          have B5 := Lib.hid hb
          obtain ⟨av, capv, hve⟩ := hown.form'
          subst hve
          clear hown hcc hcn hb C4 N4 B4
          obtain ⟨c0, c1, c2, c3, c4, c5⟩ := C5.out.cell6
          obtain ⟨n0, n1, n2, n3, n4, n5⟩ := N5.out.cell6
          by_cases hlt : k < b.recs.length
          · go_wp2_with fail
            go_loopw [8, 7] (fun i iv wq => ∃ (kk : Nat) (bv : Bool), i = .int .i64 kk ∧ iv = .bool bv ∧ bv = anyTo zs k kk ∧ kk ≤ zs.length ∧ wq = wr) (fun i _ _ => zs.length - (intOf i).toNat)
            case atStart => exact ⟨0, false, rfl, rfl, rfl, by omega, rfl⟩
            case round =>
              obtain ⟨kk, bv, rfl, rfl, hbv, hkk, rfl⟩ := hrel
              have HBV := Lib.hid hbv
              clear hbv
              by_cases hlt2 : kk < zs.length
              · obtain ⟨za', zcap', hze, hzc⟩ := HI.out
                injection hze with hze1 hze2 hze3
                subst hze1 hze3
                obtain ⟨zg, zoff, rfl, hzg, hzcell⟩ := hzc kk hlt2
                have hq := (B5.out.cell (p := ⟨zg, zoff + kk, none⟩) hzg).trans hzcell
                have HST := Lib.hid (anyTo_succ zs k kk hlt2)
                clear hzc hze2 hzcell
                generalize zs.getD kk 0 = z at *
                cases bv with
                | true =>
                  go_wp2
                  go_roundw
                  case rel => exact ⟨kk + 1, true, by go_num, rfl, by rw [HST.out, ← HBV.out]; rfl, by omega, by simp⟩
                  case measure => simp [intOf]; omega
                | false =>
                  go_wp2
                  go_roundw
                  case rel => exact ⟨kk + 1, z == (k : Int), by go_num, by first | rfl | simp, by rw [HST.out, ← HBV.out]; rfl, by omega, by simp⟩
                  case measure => simp [intOf]; omega
              · obtain rfl : kk = zs.length := by omega
                obtain ⟨x, hx⟩ : ∃ x, b.recs[k]? = some x := ⟨b.recs[k], by simp [hlt]⟩
                have HLS : Hid (lessN zs b.recs (k + 1) = lessN zs b.recs k ++ (if bv then [] else [x])) := by
                  rw [Hid, lessN, ← HBV.out, hx]
                  rfl
                have hll := (lessN_sub zs b.recs k).length_le
                rw [List.length_take] at hll
                cases bv with
                | true =>
                  have HL2 : Hid (lessN zs b.recs (k + 1) = lessN zs b.recs k) := by rw [Hid, HLS.out]; simp
                  clear HLS HBV hx
                  go_wp2
                  go_roundw
                  case rel => exact ⟨k + 1, _, by go_num, by omega, by rw [HL2.out]; exact O5.out, C5.out, N5.out, B5.out, hbs⟩
                  case measure => simp [intOf]; omega
                | false =>
                  have HL2 : Hid (lessN zs b.recs (k + 1) = lessN zs b.recs k ++ [x]) := HLS.out
                  obtain ⟨g, off, cap', he, hg, p0, p1, p2, p3⟩ := HZ.out.get B5.out hx
                  injection he with he1 he2 he3
                  subst he1 he3
                  obtain ⟨x0, xk, xv, xg⟩ := x
                  dsimp only at *
                  generalize lessN zs b.recs k = acc at *
                  clear he2 HLS HBV hx
                  have hgw : g < w.heap.size := hg
                  have hbr := C5.out.lt
                  have hgr : g < wr.heap.size := World.block_lt_of_cell? wr _ p0
                  have HKS : Hid (∀ W, Keeps (fun j => w4.heap.size ≤ j ∨ j = cb) wr W → W.cell? ⟨w.heap.size, 5, none⟩ = some (.slice (some ⟨g, off, none⟩) b.recs.length cap) ∧ W.cell? ⟨g, off + k * 4, none⟩ = some (.int .i64 x0) ∧ W.cell? ⟨g, off + k * 4 + 1, none⟩ = some (.string ⟨xk.toArray⟩) ∧ W.cell? ⟨g, off + k * 4 + 2, none⟩ = some (.string ⟨xv.toArray⟩) ∧ W.cell? ⟨g, off + k * 4 + 3, none⟩ = some (.bool xg)) := fun W hW =>
                    ⟨(hW.cell (a := ⟨w.heap.size, 5, none⟩) hbr (by simp only; omega)).trans c5, (hW.cell (a := ⟨g, off + k * 4, none⟩) hgr (by simp only; omega)).trans p0, (hW.cell (a := ⟨g, off + k * 4 + 1, none⟩) hgr (by simp only; omega)).trans p1, (hW.cell (a := ⟨g, off + k * 4 + 2, none⟩) hgr (by simp only; omega)).trans p2, (hW.cell (a := ⟨g, off + k * 4 + 3, none⟩) hgr (by simp only; omega)).trans p3⟩
                  have KD : Hid (Keeps (fun j => w4.heap.size ≤ j ∨ j = cb) wr wr.drew) := Keeps.drew _ _
                  have KA : Hid (Keeps (fun j => w4.heap.size ≤ j ∨ j = cb) wr ((wr.alloc (.cells #[.int .i64 x0, .string ⟨xk.toArray⟩, .string ⟨xv.toArray⟩, .bool xg] 41)).drew)) := (Keeps.alloc _ _ _).trans (Keeps.drew _ _)
                  have SD := Lib.hid (HKS.out _ KD.out)
                  have SA := Lib.hid (HKS.out _ KA.out)
                  have NA : Hid (Cl ((wr.alloc (.cells #[.int .i64 x0, .string ⟨xk.toArray⟩, .string ⟨xv.toArray⟩, .bool xg] 41)).drew) cb [.int .i64 b.base, .int .i64 b.count, .int .i64 b.prod, .int .i64 b.seq, .int .i64 b.time, .slice av acc.length capv] 24) := N5.out.alloc (.cells #[.int .i64 x0, .string ⟨xk.toArray⟩, .string ⟨xv.toArray⟩, .bool xg] 41)
                  have m5 : (wr.alloc (.cells #[.int .i64 x0, .string ⟨xk.toArray⟩, .string ⟨xv.toArray⟩, .bool xg] 41)).cell? ⟨cb, 5, none⟩ = some (.slice av acc.length capv) := NA.out.cell 5
                  have n5d : wr.drew.cell? ⟨cb, 5, none⟩ = some (.slice av acc.length capv) := n5
                  have OA : Hid (((wr.alloc (.cells #[.int .i64 x0, .string ⟨xk.toArray⟩, .string ⟨xv.toArray⟩, .bool xg] 41)).drew).ownsRow w4.heap.size 41 4 (.slice av acc.length capv) acc.length (recCells acc)) := World.ownsRow.drew (World.ownsRow.alloc O5.out _)
                  obtain ⟨i0, hi, hz0, hz1, hz2⟩ := info_parts recInfo
                  have hnb : some cb ≠ (Value.slice av acc.length capv).ownBlock := fun e => by have := (O5.out.lt cb e.symm).1; omega
                  have hnw : some w.heap.size ≠ (Value.slice av acc.length capv).ownBlock := fun e => by have := (O5.out.lt w.heap.size e.symm).1; omega
                  have hone : ∀ u ∈ [Value.int .i64 x0, .string ⟨xk.toArray⟩, .string ⟨xv.toArray⟩, .bool xg], u.oneCell' = true := by simp [Value.oneCell']
                  have h63 : acc.length + 1 ≤ maxLen := by unfold maxLen; omega
                  have hby : (acc.length + 1) * 48 ≤ 140737488355328 := by omega
                  have hba : w4.heap.size ≤ ((wr.alloc (.cells #[.int .i64 x0, .string ⟨xk.toArray⟩, .string ⟨xv.toArray⟩, .bool xg] 41)).drew).heap.size := by
                    show w4.heap.size ≤ (wr.alloc (.cells #[.int .i64 x0, .string ⟨xk.toArray⟩, .string ⟨xv.toArray⟩, .bool xg] 41)).heap.size
                    rw [World.size_alloc]; omega
                  go_wp2_with fail
                  obtain ⟨sd0, sd1, sd2, sd3, sd4⟩ := SD.out
                  obtain ⟨sa0, sa1, sa2, sa3, sa4⟩ := SA.out
                  go_region_law (first
                    | (refine step_append_lies _ (by rfl) _ _ _ (by rfl) w4.heap.size 41 i0 _ 4 48 Tryd.underlying22 hi hz0 hz1 hz2 rfl (by decide) (.slice av acc.length capv) acc.length (recCells acc) (by rfl) OA.out ⟨wr.heap.size, 0, none⟩ 1 1 [.int .i64 x0, .string ⟨xk.toArray⟩, .string ⟨xv.toArray⟩, .bool xg] (by rfl) (by rfl) (World.news_of_block (cs := #[.int .i64 x0, .string ⟨xk.toArray⟩, .string ⟨xv.toArray⟩, .bool xg]) (t := 41) (fr := (0, 0)) (heap_alloc_new wr _)) hone Nat.one_pos h63 hby hba _ rfl ?_; intro g11 cap11 w11 hown11 hg11 hat11 hlt11; have KB := Lib.hid (KA.out.trans (Keeps.grown hg11 (fun j hj => Or.inl (OA.out.lt j hj).1))); have SB := Lib.hid (HKS.out _ KB.out); have NB := Lib.hid ((NA.out.grown hg11 hnb) : Cl w11 cb [.int .i64 b.base, .int .i64 b.count, .int .i64 b.prod, .int .i64 b.seq, .int .i64 b.time, .slice av acc.length capv] 24); have s5 : w11.cell? ⟨cb, 5, none⟩ = some (.slice av acc.length capv) := NB.out.cell 5; have sf := NB.out.free 5; have SC := Lib.hid (HKS.out _ (KB.out.trans (Keeps.setCell _ _ ⟨cb, 5, none⟩ (.slice (some ⟨g11, 0, none⟩) (acc.length + 1) cap11) (Or.inr rfl))))))
                  all_goals
                    have CX : Hid (Cl (w11.setCell ⟨cb, 5, none⟩ (.slice (some ⟨g11, 0, none⟩) (acc.length + 1) cap11)) w.heap.size [.int .i64 b.base, .int .i64 b.count, .int .i64 b.prod, .int .i64 b.seq, .int .i64 b.time, .slice (some ⟨g, off, none⟩) b.recs.length cap] 24) := (Cl.grown (show Cl ((wr.alloc (.cells #[.int .i64 x0, .string ⟨xk.toArray⟩, .string ⟨xv.toArray⟩, .bool xg] 41)).drew) w.heap.size _ _ from C5.out.alloc _) hg11 hnw).other _ _ hne
                    have NX : Hid (Cl (w11.setCell ⟨cb, 5, none⟩ (.slice (some ⟨g11, 0, none⟩) (acc.length + 1) cap11)) cb [.int .i64 b.base, .int .i64 b.count, .int .i64 b.prod, .int .i64 b.seq, .int .i64 b.time, .slice (some ⟨g11, 0, none⟩) (acc.length + 1) cap11] 24) := NB.out.set 5 _
                    have OX : Hid ((w11.setCell ⟨cb, 5, none⟩ (.slice (some ⟨g11, 0, none⟩) (acc.length + 1) cap11)).ownsRow w4.heap.size 41 4 (.slice (some ⟨g11, 0, none⟩) (acc.length + 1) cap11) (lessN zs b.recs (k + 1)).length (recCells (lessN zs b.recs (k + 1)))) := by
                      rw [HL2.out, List.length_append, recCells_snoc2]
                      exact ownsRow_cell hown11 ⟨cb, 5, none⟩ _ hcb4
                    have BX : Hid (Below w.heap.size w (w11.setCell ⟨cb, 5, none⟩ (.slice (some ⟨g11, 0, none⟩) (acc.length + 1) cap11))) := (((B5.out.alloc B5.out.size (.cells #[.int .i64 x0, .string ⟨xk.toArray⟩, .string ⟨xv.toArray⟩, .bool xg] 41)).drew).grown hg11 (by show w.heap.size ≤ (wr.alloc (.cells #[.int .i64 x0, .string ⟨xk.toArray⟩, .string ⟨xv.toArray⟩, .bool xg] 41)).heap.size; rw [World.size_alloc]; have := B5.out.size; omega) (fun kk hkk => by have := (O5.out.lt kk hkk).1; omega)).setCell (p := ⟨cb, 5, none⟩) (by simp only; omega) _
                    have hsx : w4.heap.size ≤ (w11.setCell ⟨cb, 5, none⟩ (.slice (some ⟨g11, 0, none⟩) (acc.length + 1) cap11)).heap.size := by
                      have e1 : (w11.setCell ⟨cb, 5, none⟩ (.slice (some ⟨g11, 0, none⟩) (acc.length + 1) cap11)).heap.size = w11.heap.size := by simp [World.setCell]
                      have := KB.out.size
                      omega
                    clear hown11 hg11 hat11 hlt11 KB SB SC NB s5 sf
                    go_wp2
                    go_roundw
                    case rel => exact ⟨k + 1, _, by go_num, by omega, OX.out, CX.out, NX.out, BX.out, hsx⟩
                    case measure => simp [intOf]; omega
          · obtain rfl : k = b.recs.length := by omega
            have hsub : (lessN zs b.recs b.recs.length).Sublist b.recs := by
              have := lessN_sub zs b.recs b.recs.length
              rwa [List.take_length] at this
            have HGC := Lib.hid (Cr.good_sub hsub HG.out)
            have R5 : Hid (Recs wr (.slice av (lessN zs b.recs b.recs.length).length capv) (lessN zs b.recs b.recs.length)) := Sl.recs' (Sl.ofOwn O5.out) rfl
            clear hsub O5
            generalize lessN zs b.recs b.recs.length = acc at *
            have OC := Lib.hid (batOk_good HGC.out)
            have hal : acc.length ≤ 9223372036854775807 := by have := OC.out.2.2.2.2.2.1; unfold maxLen at this; exact this
            obtain ⟨q1, q2, q3⟩ := Cr.enc_len HGC.out
            have HE := Lib.hid (encode_any { b with recs := acc } OC.out _ wr R5.out (HW.out.below B5.out))
            rw [show encR { b with recs := acc } = .tuple #[.string ⟨(Cr.enc { b with recs := acc }).toArray⟩, .int .i64 0] from by rw [encR, if_pos HGC.out]] at HE
            have HDE := Lib.hid (Cr.dec_enc HGC.out)
            unfold batV at HE
            generalize Cr.enc { b with recs := acc } = le at *
            go_wp2_with fail
            refine HE.out.mono ?_
            rintro e w6 ⟨rfl, hb6⟩
            have B6 := Lib.hid (bt B5.out hb6)
            have C6 := Lib.hid (C5.out.below hb6)
            have N6 := Lib.hid (N5.out.below hb6)
            have R6 := Lib.hid (R5.out.kept hb6)
            have HD := Lib.hid (decode_any le (by omega) w6 (HW.out.below B6.out))
            rw [HDE.out] at HD
            clear hb6 HE HDE C5 N5 B5 R5 c0 c1 c2 c3 c4 c5 n0 n1 n2 n3 n4 n5
            go_wp2_with fail
            refine HD.out.mono ?_
            intro e w7 h7
            obtain ⟨a7, cap7, rfl, r7, b7⟩ := h7.some'
            dsimp only at r7
            have B7 := Lib.hid (bt B6.out b7)
            have D7 : Hid (Below w7.heap.size w7 (w7.alloc (.cells #[.int .i64 b.base, .int .i64 b.count, .int .i64 b.prod, .int .i64 b.seq, .int .i64 b.time, .slice a7 acc.length cap7] 24))) := (Below.refl _ _).alloc (Nat.le_refl _) _
            have ND : Hid (Cl (w7.alloc (.cells #[.int .i64 b.base, .int .i64 b.count, .int .i64 b.prod, .int .i64 b.seq, .int .i64 b.time, .slice a7 acc.length cap7] 24)) w7.heap.size [.int .i64 b.base, .int .i64 b.count, .int .i64 b.prod, .int .i64 b.seq, .int .i64 b.time, .slice a7 acc.length cap7] 24) := Cl.new _ _ _
            have C7 := Lib.hid ((C6.out.below b7).below D7.out)
            have N7 := Lib.hid ((N6.out.below b7).below D7.out)
            have R7 := Lib.hid ((R6.out.kept b7).kept D7.out)
            have R7' := Lib.hid (r7.kept D7.out)
            have HGG := Lib.hid (good_any { b with recs := acc } OC.out _ _ R7.out)
            rw [HGC.out] at HGG
            clear h7 r7 b7 HD B6 C6 N6 R6
            unfold batV at HGG ⊢
            dsimp only at HGG ⊢
            obtain ⟨c0, c1, c2, c3, c4, c5⟩ := C7.out.cell6
            obtain ⟨n0, n1, n2, n3, n4, n5⟩ := N7.out.cell6
            go_wp2_with fail
            refine HGG.out.mono ?_
            rintro e w8 ⟨rfl, hb8⟩
            have B8 := Lib.hid (bt B7.out (bt D7.out hb8))
            have C8 := Lib.hid (C7.out.below hb8)
            have N8 := Lib.hid (N7.out.below hb8)
            have E8 := Lib.hid (ND.out.below hb8)
            have HS := Lib.hid (same_any { b with recs := acc } { b with recs := acc } OC.out OC.out _ _ w8 (R7.out.kept hb8) (R7'.out.kept hb8))
            rw [Cr.same_iff.2 rfl] at HS
            unfold batV at HS
            dsimp only at HS
            clear hb8 C7 N7 ND R7 R7' HGG c0 c1 c2 c3 c4 c5 n0 n1 n2 n3 n4 n5
            obtain ⟨n0, n1, n2, n3, n4, n5⟩ := N8.out.cell6
            obtain ⟨e0, e1, e2, e3, e4, e5⟩ := E8.out.cell6
            go_wp2_with fail
            refine HS.out.mono ?_
            rintro e w9 ⟨rfl, hb9⟩
            have B9 := Lib.hid (bt B8.out hb9)
            have C9 := Lib.hid (C8.out.below hb9)
            have E9 := Lib.hid (E8.out.below hb9)
            clear hb9 HS n0 n1 n2 n3 n4 n5 e0 e1 e2 e3 e4 e5
            obtain ⟨c0, c1, c2, c3, c4, c5⟩ := C9.out.cell6
            obtain ⟨e0, e1, e2, e3, e4, e5⟩ := E9.out.cell6
            go_wp2
            go_ret
            exact ⟨rfl, B9.out⟩

end Go.Proofs.YtegaonoobjeneaaDoor
