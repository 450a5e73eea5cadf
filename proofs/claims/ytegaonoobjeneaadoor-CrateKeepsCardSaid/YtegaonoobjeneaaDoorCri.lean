/-
  The document's crate: Pack, walked.
  Conditions: none.
-/
import Derived.Test.YtegaonoobjeneaaDoorCrg
import Derived.Test.YtegaonoobjeneaaDoorCwg
import Derived.Deep.AppendLies
import Derived.Deep.Cut
set_option linter.unusedVariables false
set_option linter.unusedSimpArgs false
namespace Go.Proofs.YtegaonoobjeneaaDoor
open Go.RowKit

theorem recCells_snoc (l : List Cr.Rec) (x : Cr.Rec) : recCells (l ++ [x]) = recCells l ++ [.int .i64 x.off, .string ⟨x.key.toArray⟩, .string ⟨x.val.toArray⟩, .bool x.gone] := by simp [recCells]
theorem offs_take (base : Int) (l : List Cr.Rec) (k : Nat) (x : Cr.Rec) (h : l[k]? = some x) : (Cr.offs base l).take (k + 1) = (Cr.offs base l).take k ++ [{ x with off := base + k }] := by
  have hk := (List.getElem?_eq_some_iff.1 h).1
  have hl := Cr.offs_length l base
  have ho := Cr.offs_get l base k
  rw [h, Option.map_some] at ho
  have hk2 : k < (Cr.offs base l).length := by omega
  rw [List.take_succ_eq_append_getElem hk2]
  rw [List.getElem?_eq_getElem hk2] at ho
  injection ho with ho
  rw [ho]
theorem own_cell {w : World} {base : Nat} {e : TypeId} {size : Nat} {v : Value} {n : Nat} {xs : List Value} (h : w.ownsRow base e size v n xs) (a : Addr) (u : Value) (hj : a.block < base) : (w.setCell a u).ownsRow base e size v n xs := by
  have k : Keeps (fun i => i = a.block) w (w.setCell a u) := Keeps.setCell _ _ _ _ rfl
  refine World.ownsRow.kept (row := some a.block) h ⟨k.os, k.tape, k.output, k.size, fun i hi hne => k.block i hi (fun e => hne (by rw [e]))⟩ ?_
  rcases hv : v.ownBlock with _ | g
  · exact .inl rfl
  · right
    intro e
    have := (h.lt g hv).1
    injection e with e
    omega
theorem own_form {w : World} {base : Nat} {e : TypeId} {size : Nat} {v : Value} {n : Nat} {xs : List Value} (h : w.ownsRow base e size v n xs) : ∃ a c, v = .slice a n c := by
  rcases h.2 with ⟨rfl, h0⟩ | ⟨g, cap, cur, rfl, _⟩
  · exact ⟨none, 0, by rw [h0]⟩
  · exact ⟨_, _, rfl⟩
set_option maxRecDepth 20000 in
set_option maxHeartbeats 6400000 in
theorem refpack_any (l : List Cr.Rec) (hok : ∀ x ∈ l, RecOk x) (hl : l.length ≤ maxLen) (base prod seq time : Int) (hb : Bd.inR base) (hp : Bd.inR prod) (hs : Bd.inR seq) (ht : Bd.inR time) (rv : Value) (w : World) (h : Recs w rv l) :
    Calls Tryd.prog 24 #[rv, .int .i64 base, .int .i64 prod, .int .i64 seq, .int .i64 time] w (BatR w (Cr.pack l base prod seq time) 1) := by
  have HF := Lib.hid (fun W (hW : Below w.heap.size w W) => reffits_any l hok hl rv W (h.kept hW))
  have hs1 := World.size_alloc w (.cells #[.int .i64 0, .int .i64 0, .int .i64 0, .int .i64 0, .int .i64 0, .slice none 0 0] 24)
  have B1 : Hid (Below w.heap.size w ((w.alloc (.cells #[.int .i64 0, .int .i64 0, .int .i64 0, .int .i64 0, .int .i64 0, .slice none 0 0] 24)).alloc (.cells #[.int .i64 0, .int .i64 0, .int .i64 0, .int .i64 0, .int .i64 0, .slice none 0 0] 24))) := ((Below.refl _ _).alloc (Nat.le_refl _) _).alloc (by omega) _
  have C1 : Hid (Cl ((w.alloc (.cells #[.int .i64 0, .int .i64 0, .int .i64 0, .int .i64 0, .int .i64 0, .slice none 0 0] 24)).alloc (.cells #[.int .i64 0, .int .i64 0, .int .i64 0, .int .i64 0, .int .i64 0, .slice none 0 0] 24)) w.heap.size zeroCells 24) := (Cl.new w zeroCells 24).alloc _
  have N1 : Hid (Cl ((w.alloc (.cells #[.int .i64 0, .int .i64 0, .int .i64 0, .int .i64 0, .int .i64 0, .slice none 0 0] 24)).alloc (.cells #[.int .i64 0, .int .i64 0, .int .i64 0, .int .i64 0, .int .i64 0, .slice none 0 0] 24)) (w.heap.size + 1) zeroCells 24) := by
    have := Cl.new (w.alloc (.cells #[.int .i64 0, .int .i64 0, .int .i64 0, .int .i64 0, .int .i64 0, .slice none 0 0] 24)) zeroCells 24
    rwa [hs1] at this
  have HP : Hid (Cr.pack l base prod seq time = if Cr.fits l && Cr.isNum base && Cr.good (Cr.packed l base prod seq time) then some (Cr.packed l base prod seq time) else none) := rfl
  have HZ := Lib.hid h
  have HOK := Lib.hid hok
  clear h
  cases hf : Cr.fits l with
  | false =>
    rw [hf] at HF HP
    clear hf
    go_enter Tryd.func24, Tryd.ntmps24
    go_wp2_with fail
    refine (HF.out _ B1.out).mono ?_
    rintro e w2 ⟨rfl, hb2⟩
    have B2 := Lib.hid (bt B1.out hb2)
    have C2 := Lib.hid (C1.out.below hb2)
    have N2 := Lib.hid (N1.out.below hb2)
    obtain ⟨c0, c1, c2, c3, c4, c5⟩ := C2.out.cell6
    obtain ⟨f0, f1, f2, f3, f4, f5⟩ := C2.out.free6
    obtain ⟨n0, n1, n2, n3, n4, n5⟩ := N2.out.cell6
    clear C1 B1 hb2 N1 hs1
    go_wp2
    have C3 := (((((C2.out.set 0 (.int .i64 0)).set 1 (.int .i64 0)).set 2 (.int .i64 0)).set 3 (.int .i64 0)).set 4 (.int .i64 0)).set 5 (.slice none 0 0)
    refine bodyPost_ret (results_cl_tmp rfl _ _ _ _ _ _ rfl C3 Tryd.underlying24 rfl (by kernel_rfl)) rfl ?_
    rw [HP.out]
    exact BatR.no ((((((B2.out.setCell (p := ⟨w.heap.size, 0, none⟩) (Nat.le_refl _) _).setCell (p := ⟨w.heap.size, 1, none⟩) (Nat.le_refl _) _).setCell (p := ⟨w.heap.size, 2, none⟩) (Nat.le_refl _) _).setCell (p := ⟨w.heap.size, 3, none⟩) (Nat.le_refl _) _).setCell (p := ⟨w.heap.size, 4, none⟩) (Nat.le_refl _) _).setCell (p := ⟨w.heap.size, 5, none⟩) (Nat.le_refl _) _)
  | true =>
    have hl8 : l.length ≤ 8 := by
      simp only [Cr.fits, Bool.and_eq_true, decide_eq_true_eq] at hf
      exact hf.2.1
    rw [hf] at HF HP
    clear hf
    have HN := Lib.hid (fun W => refnum_any base W)
    cases hn : Cr.isNum base with
    | false =>
      rw [hn] at HN HP
      clear hn
      go_enter Tryd.func24, Tryd.ntmps24
      go_wp2_with fail
      refine (HF.out _ B1.out).mono ?_
      rintro e w2 ⟨rfl, hb2⟩
      have B2 := Lib.hid (bt B1.out hb2)
      have C2 := Lib.hid (C1.out.below hb2)
      have N2 := Lib.hid (N1.out.below hb2)
      obtain ⟨c0, c1, c2, c3, c4, c5⟩ := C2.out.cell6
      obtain ⟨f0, f1, f2, f3, f4, f5⟩ := C2.out.free6
      obtain ⟨n0, n1, n2, n3, n4, n5⟩ := N2.out.cell6
      clear C1 B1 hb2 N1 hs1
      go_wp2_with fail
      refine (HN.out _).mono ?_
      rintro e w2 ⟨rfl, rfl⟩
      go_wp2
      have C3 := (((((C2.out.set 0 (.int .i64 0)).set 1 (.int .i64 0)).set 2 (.int .i64 0)).set 3 (.int .i64 0)).set 4 (.int .i64 0)).set 5 (.slice none 0 0)
      refine bodyPost_ret (results_cl_tmp rfl _ _ _ _ _ _ rfl C3 Tryd.underlying24 rfl (by kernel_rfl)) rfl ?_
      rw [HP.out]
      exact BatR.no ((((((B2.out.setCell (p := ⟨w.heap.size, 0, none⟩) (Nat.le_refl _) _).setCell (p := ⟨w.heap.size, 1, none⟩) (Nat.le_refl _) _).setCell (p := ⟨w.heap.size, 2, none⟩) (Nat.le_refl _) _).setCell (p := ⟨w.heap.size, 3, none⟩) (Nat.le_refl _) _).setCell (p := ⟨w.heap.size, 4, none⟩) (Nat.le_refl _) _).setCell (p := ⟨w.heap.size, 5, none⟩) (Nat.le_refl _) _)
    | true =>
      have HBO := Lib.hid (batOk_packed hok hl8 hn hp hs ht)
      have hbr : 0 ≤ base ∧ base ≤ 1099511627776 := by simpa only [Cr.isNum, Bool.and_eq_true, decide_eq_true_eq] using hn
      obtain ⟨hb0, hb1⟩ := hbr
      rw [hn] at HN HP
      clear hn hok
      obtain ⟨a0, cap0, rfl⟩ := HZ.out.form
      go_enter Tryd.func24, Tryd.ntmps24
      go_wp2_with fail
      refine (HF.out _ B1.out).mono ?_
      rintro e w2 ⟨rfl, hb2⟩
      have B2 := Lib.hid (bt B1.out hb2)
      have C2 := Lib.hid (C1.out.below hb2)
      have N2 := Lib.hid (N1.out.below hb2)
      have hs2 := N2.out.lt
      clear C1 B1 hb2 N1 HF
      go_wp2_with fail
      refine (HN.out _).mono ?_
      rintro e w2 ⟨rfl, rfl⟩
      have HC : Hid (Cl (w2.alloc (.cells #[.int .i64 base, .int .i64 l.length, .int .i64 prod, .int .i64 seq, .int .i64 time, .slice none 0 0] 24)) w2.heap.size [.int .i64 base, .int .i64 l.length, .int .i64 prod, .int .i64 seq, .int .i64 time, .slice none 0 0] 24) := Cl.new w2 _ _
      have C4 := Lib.hid (C2.out.alloc (.cells #[.int .i64 base, .int .i64 l.length, .int .i64 prod, .int .i64 seq, .int .i64 time, .slice none 0 0] 24))
      have N4 := Lib.hid (N2.out.alloc (.cells #[.int .i64 base, .int .i64 l.length, .int .i64 prod, .int .i64 seq, .int .i64 time, .slice none 0 0] 24))
      have B4 : Hid (Below w.heap.size w (w2.alloc (.cells #[.int .i64 base, .int .i64 l.length, .int .i64 prod, .int .i64 seq, .int .i64 time, .slice none 0 0] 24))) := B2.out.alloc B2.out.size _
      have hs4 : w2.heap.size < (w2.alloc (.cells #[.int .i64 base, .int .i64 l.length, .int .i64 prod, .int .i64 seq, .int .i64 time, .slice none 0 0] 24)).heap.size := by rw [World.size_alloc]; omega
      clear C2 B2 N2 hs1
      go_wp2_with fail
      generalize w2.alloc (.cells #[.int .i64 base, .int .i64 l.length, .int .i64 prod, .int .i64 seq, .int .i64 time, .slice none 0 0] 24) = w4 at *
      generalize hbb : w2.heap.size = bb at *
      go_loopw [14] (fun i wr => ∃ (k : Nat) (v : Value), i = .int .i64 k ∧ k ≤ l.length ∧ wr.ownsRow w4.heap.size 41 4 v k (recCells ((Cr.offs base l).take k)) ∧ Cl wr w.heap.size zeroCells 24 ∧ Cl wr (w.heap.size + 1) zeroCells 24 ∧ Cl wr bb [.int .i64 base, .int .i64 l.length, .int .i64 prod, .int .i64 seq, .int .i64 time, v] 24 ∧ Below w.heap.size w wr ∧ w4.heap.size ≤ wr.heap.size) (fun i _ => l.length - (intOf i).toNat)
      case atStart => exact ⟨0, _, rfl, by omega, ⟨rfl, .inl ⟨rfl, rfl⟩⟩, C4.out, N4.out, HC.out, B4.out, Nat.le_refl _⟩
      case round =>
        obtain ⟨k, v, rfl, hk, hown, hcz, hcn, hcb, hb, hbs⟩ := hrel
        have O5 := Lib.hid hown
        have Z5 := Lib.hid hcz
        have N5 := Lib.hid hcn
        have C5 := Lib.hid hcb
        have B5 := Lib.hid hb
        have hbl : Hid (bb < w4.heap.size) := HC.out.lt
        have HOV := Lib.hid (fun g' hv => (hown.lt g' hv).2)
        obtain ⟨av, capv, hve⟩ := own_form hown
        subst hve
        clear hown hcz hcb hcn hb
        obtain ⟨c0, c1, c2, c3, c4, c5⟩ := C5.out.cell6
        by_cases hlt : k < l.length
        · obtain ⟨x, hx⟩ : ∃ x, l[k]? = some x := ⟨l[k], by simp [hlt]⟩
          have HS := Lib.hid (offs_take base l k x hx)
          obtain ⟨g, off, cap', he, hg, p0, p1, p2, p3⟩ := HZ.out.get B5.out hx
          injection he with he1 he2 he3
          subst he1 he3
          obtain ⟨x0, xk, xv, xg⟩ := x
          dsimp only at *
          have CX : Hid (Cl (wr.alloc (.cells #[.int .i64 x0, .string ⟨xk.toArray⟩, .string ⟨xv.toArray⟩, .bool xg] 41)) wr.heap.size [.int .i64 x0, .string ⟨xk.toArray⟩, .string ⟨xv.toArray⟩, .bool xg] 41) := Cl.new _ _ _
          have O6 := Lib.hid (World.ownsRow.alloc O5.out (.cells #[.int .i64 x0, .string ⟨xk.toArray⟩, .string ⟨xv.toArray⟩, .bool xg] 41))
          have hxb : bb ≠ wr.heap.size := by have := C5.out.lt; omega
          have C6 := Lib.hid (C5.out.alloc (.cells #[.int .i64 x0, .string ⟨xk.toArray⟩, .string ⟨xv.toArray⟩, .bool xg] 41))
          have Z6 := Lib.hid (Z5.out.alloc (.cells #[.int .i64 x0, .string ⟨xk.toArray⟩, .string ⟨xv.toArray⟩, .bool xg] 41))
          have N6 := Lib.hid (N5.out.alloc (.cells #[.int .i64 x0, .string ⟨xk.toArray⟩, .string ⟨xv.toArray⟩, .bool xg] 41))
          have B6 : Hid (Below w.heap.size w (wr.alloc (.cells #[.int .i64 x0, .string ⟨xk.toArray⟩, .string ⟨xv.toArray⟩, .bool xg] 41))) := B5.out.alloc B5.out.size _
          have hs6 : wr.heap.size < (wr.alloc (.cells #[.int .i64 x0, .string ⟨xk.toArray⟩, .string ⟨xv.toArray⟩, .bool xg] 41)).heap.size := by rw [World.size_alloc]; omega
          have hbw := B5.out.size
          clear O5 Z5 N5 C5 B5
          go_upto_region 9 with (fail)
          generalize wr.alloc (.cells #[.int .i64 x0, .string ⟨xk.toArray⟩, .string ⟨xv.toArray⟩, .bool xg] 41) = wA at *
          generalize hxx : wr.heap.size = xb at *
          obtain ⟨t0, t1, t2, t3⟩ := CX.out.cell4
          have tf := CX.out.free 0
          have C7 := Lib.hid (C6.out.other ⟨xb, 0, none⟩ (.int .i64 (base + k)) (fun e => hxb e.symm))
          have CY : Hid (Cl (wA.setCell ⟨xb, 0, none⟩ (.int .i64 (base + k))) xb [.int .i64 (base + k), .string ⟨xk.toArray⟩, .string ⟨xv.toArray⟩, .bool xg] 41) := CX.out.set 0 _
          have O7 : Hid ((wA.setCell ⟨xb, 0, none⟩ (.int .i64 (base + k))).ownsRow w4.heap.size 41 4 (.slice av k capv) k (recCells ((Cr.offs base l).take k))) := by
            refine World.ownsRow.kept (row := some xb) O6.out ⟨rfl, rfl, rfl, by simp [World.setCell], fun i hi hne => Below.heap_setCell _ _ _ _ (fun e => hne (by rw [e]))⟩ ?_
            rcases hv : (Value.slice av k capv).ownBlock with _ | g'
            · exact .inl rfl
            · right
              intro e
              injection e with e
              have := HOV.out g' hv
              omega
          have Z7 := Lib.hid (Z6.out.other ⟨xb, 0, none⟩ (.int .i64 (base + k)) (by simp only; omega))
          have N7 := Lib.hid (N6.out.other ⟨xb, 0, none⟩ (.int .i64 (base + k)) (by simp only; omega))
          have B7 := Lib.hid (B6.out.setCell (p := ⟨xb, 0, none⟩) (by simp only; omega) (.int .i64 (base + k)))
          have hs7 : (wA.setCell ⟨xb, 0, none⟩ (.int .i64 (base + k))).heap.size = wA.heap.size := by simp [World.setCell]
          go_upto_region 10 with (fail)
          clear O6 Z6 N6 B6 C6 CX t0 t1 t2 t3 tf
          generalize wA.setCell ⟨xb, 0, none⟩ (.int .i64 (base + k)) = wS at *
          obtain ⟨c0, c1, c2, c3, c4, c5⟩ := C7.out.cell6
          obtain ⟨t0, t1, t2, t3⟩ := CY.out.cell4
          obtain ⟨i0, hi, hz0, hz1, hz2⟩ := info_parts recInfo
          have hone : ∀ u ∈ [Value.int .i64 (base + k), .string ⟨xk.toArray⟩, .string ⟨xv.toArray⟩, .bool xg], u.oneCell' = true := by simp [Value.oneCell']
          have hb4 : w4.heap.size ≤ wS.heap.size := by omega
          clear hs7 hs6
          go_wp2_with (at_builtin; refine wpList_append_own _ rfl (.tmp 48) (.tmp 50) 22 rfl w4.heap.size 41 i0 _ 4 48 Tryd.underlying22 hi hz0 hz1 hz2 rfl (by decide) _ _ _ rfl (World.ownsRow.alloc O7.out _) ⟨wS.heap.size, 0, none⟩ 1 1 [.int .i64 (base + k), .string ⟨xk.toArray⟩, .string ⟨xv.toArray⟩, .bool xg] rfl rfl (World.news_of_block (cs := #[.int .i64 (base + k), .string ⟨xk.toArray⟩, .string ⟨xv.toArray⟩, .bool xg]) (t := 41) (fr := (0, 0)) (heap_alloc_new wS _)) hone ?_ ?_ ?_ ?_)
          · unfold maxLen; omega
          · omega
          · first | omega | (simp; omega) | (rw [World.size_alloc]; omega)
          intro v' w8 hown8 hg8 _
          have KB : Hid (Keeps (fun j => w4.heap.size ≤ j) wS w8) := (Keeps.alloc _ _ _).trans (Keeps.grown hg8 (fun j hj => (O7.out.lt j hj).1))
          have O8 : Hid (w8.ownsRow w4.heap.size 41 4 v' (k + 1) (recCells ((Cr.offs base l).take (k + 1)))) := by
            rw [Hid, HS.out, recCells_snoc]
            exact hown8
          have hs8 := KB.out.size
          have C8 := Lib.hid (C7.out.keep KB.out (by have := hbl.out; omega))
          have Z8 := Lib.hid (Z7.out.keep KB.out (by omega))
          have N8 := Lib.hid (N7.out.keep KB.out (by omega))
          have B8 : Hid (Below w.heap.size w w8) := B7.out.trans (KB.out.toBelow B7.out.size (fun j hj e => by omega))
          obtain ⟨av', capv', hve'⟩ := own_form hown8
          subst hve'
          clear hown8 hg8 KB c0 c1 c2 c3 c4 c5 C7 Z7 N7 B7 O7 CY t0 t1 t2 t3
          obtain ⟨c0, c1, c2, c3, c4, c5⟩ := C8.out.cell6
          obtain ⟨f0, f1, f2, f3, f4, f5⟩ := C8.out.free6
          have C9 : Hid (Cl (w8.setCell ⟨bb, 5, none⟩ (.slice av' (k + 1) capv')) bb [.int .i64 base, .int .i64 l.length, .int .i64 prod, .int .i64 seq, .int .i64 time, .slice av' (k + 1) capv'] 24) := C8.out.set 5 _
          have O9 := Lib.hid (own_cell O8.out ⟨bb, 5, none⟩ (.slice av' (k + 1) capv') (by have := hbl.out; exact this))
          have Z9 := Lib.hid (Z8.out.other ⟨bb, 5, none⟩ (.slice av' (k + 1) capv') (by simp only; omega))
          have N9 := Lib.hid (N8.out.other ⟨bb, 5, none⟩ (.slice av' (k + 1) capv') (by simp only; omega))
          have B9 := Lib.hid (B8.out.setCell (p := ⟨bb, 5, none⟩) (by simp only; omega) (.slice av' (k + 1) capv'))
          have hs9 : w4.heap.size ≤ (w8.setCell ⟨bb, 5, none⟩ (.slice av' (k + 1) capv')).heap.size := by
            have : (w8.setCell ⟨bb, 5, none⟩ (.slice av' (k + 1) capv')).heap.size = w8.heap.size := by simp [World.setCell]
            omega
          go_wp2
          go_roundw
          case rel => exact ⟨k + 1, _, by go_num, by omega, O9.out, Z9.out, N9.out, C9.out, B9.out, hs9⟩
          case measure => simp [intOf]; omega
        · obtain rfl : k = l.length := by omega
          have hoff : (Cr.offs base l).take l.length = Cr.offs base l := List.take_of_length_le (by rw [Cr.offs_length]; exact Nat.le_refl _)
          have O6 : Hid (wr.ownsRow w4.heap.size 41 4 (.slice av l.length capv) l.length (recCells (Cr.offs base l))) := by rw [← hoff]; exact O5.out
          have R5 : Hid (Recs wr (.slice av l.length capv) (Cr.packed l base prod seq time).recs) := Sl.recs' (Sl.ofOwn O6.out) (Cr.offs_length _ _)
          have HG := Lib.hid (refgood_any _ HBO.out _ _ R5.out)
          unfold batV at HG
          rw [show (Cr.packed l base prod seq time).base = base from rfl, show (Cr.packed l base prod seq time).count = (l.length : Int) from rfl, show (Cr.packed l base prod seq time).prod = prod from rfl, show (Cr.packed l base prod seq time).seq = seq from rfl, show (Cr.packed l base prod seq time).time = time from rfl] at HG
          cases hgd : Cr.good (Cr.packed l base prod seq time) with
          | false =>
            rw [hgd] at HG HP
            clear hgd
            go_wp2_with fail
            refine HG.out.mono ?_
            rintro e w7 ⟨rfl, hb7⟩
            have Z7 := Lib.hid (Z5.out.below hb7)
            have N7 := Lib.hid (N5.out.below hb7)
            have B7 := Lib.hid (bt B5.out hb7)
            clear hb7 HG
            obtain ⟨z0, z1, z2, z3, z4, z5⟩ := Z7.out.cell6
            obtain ⟨f0, f1, f2, f3, f4, f5⟩ := Z7.out.free6
            obtain ⟨n0, n1, n2, n3, n4, n5⟩ := N7.out.cell6
            go_wp2
            have Z8 := (((((Z7.out.set 0 (.int .i64 0)).set 1 (.int .i64 0)).set 2 (.int .i64 0)).set 3 (.int .i64 0)).set 4 (.int .i64 0)).set 5 (.slice none 0 0)
            refine bodyPost_ret (results_cl_tmp rfl _ _ _ _ _ _ rfl Z8 Tryd.underlying24 rfl (by kernel_rfl)) rfl ?_
            rw [HP.out]
            exact BatR.no ((((((B7.out.setCell (p := ⟨w.heap.size, 0, none⟩) (Nat.le_refl _) _).setCell (p := ⟨w.heap.size, 1, none⟩) (Nat.le_refl _) _).setCell (p := ⟨w.heap.size, 2, none⟩) (Nat.le_refl _) _).setCell (p := ⟨w.heap.size, 3, none⟩) (Nat.le_refl _) _).setCell (p := ⟨w.heap.size, 4, none⟩) (Nat.le_refl _) _).setCell (p := ⟨w.heap.size, 5, none⟩) (Nat.le_refl _) _)
          | true =>
            rw [hgd] at HG HP
            clear hgd
            go_wp2_with fail
            refine HG.out.mono ?_
            rintro e w7 ⟨rfl, hb7⟩
            have Z7 := Lib.hid (Z5.out.below hb7)
            have C7 := Lib.hid (C5.out.below hb7)
            have B7 := Lib.hid (bt B5.out hb7)
            have O7 := Lib.hid (ownsRow_below O6.out hb7)
            clear hb7 HG c0 c1 c2 c3 c4 c5 R5
            obtain ⟨c0, c1, c2, c3, c4, c5⟩ := C7.out.cell6
            obtain ⟨z0, z1, z2, z3, z4, z5⟩ := Z7.out.cell6
            obtain ⟨f0, f1, f2, f3, f4, f5⟩ := Z7.out.free6
            go_wp2
            have Z8 := (((((Z7.out.set 0 (.int .i64 base)).set 1 (.int .i64 l.length)).set 2 (.int .i64 prod)).set 3 (.int .i64 seq)).set 4 (.int .i64 time)).set 5 (.slice av l.length capv)
            have O8 := own_cell (own_cell (own_cell (own_cell (own_cell (own_cell O7.out ⟨w.heap.size, 0, none⟩ (.int .i64 base) (by simp only; omega)) ⟨w.heap.size, 1, none⟩ (.int .i64 l.length) (by simp only; omega)) ⟨w.heap.size, 2, none⟩ (.int .i64 prod) (by simp only; omega)) ⟨w.heap.size, 3, none⟩ (.int .i64 seq) (by simp only; omega)) ⟨w.heap.size, 4, none⟩ (.int .i64 time) (by simp only; omega)) ⟨w.heap.size, 5, none⟩ (.slice av l.length capv) (by simp only; omega)
            refine bodyPost_ret (results_cl_tmp rfl _ _ _ _ _ _ rfl Z8 Tryd.underlying24 rfl (by kernel_rfl)) rfl ?_
            rw [HP.out]
            exact ⟨.slice av l.length capv, rfl, Sl.recs' (Sl.ofOwn O8) (Cr.offs_length _ _), (((((B7.out.setCell (p := ⟨w.heap.size, 0, none⟩) (Nat.le_refl _) _).setCell (p := ⟨w.heap.size, 1, none⟩) (Nat.le_refl _) _).setCell (p := ⟨w.heap.size, 2, none⟩) (Nat.le_refl _) _).setCell (p := ⟨w.heap.size, 3, none⟩) (Nat.le_refl _) _).setCell (p := ⟨w.heap.size, 4, none⟩) (Nat.le_refl _) _).setCell (p := ⟨w.heap.size, 5, none⟩) (Nat.le_refl _) _⟩

end Go.Proofs.YtegaonoobjeneaaDoor
