/-
  Crate: Pack, walked, with the library's Clone under it.
  Conditions: the model's bound on memory.
-/
import Derived.Test.YtegaonoobjeneaaDoorCwe
import Derived.Test.YtegaonoobjeneaaDoorCl
import Derived.Lib.SlicesMore
set_option linter.unusedVariables false
set_option linter.unusedSimpArgs false
namespace Go.Proofs.YtegaonoobjeneaaDoor
open Go.RowKit

theorem recInfo : (Tryd.prog.info? 41).map (fun i => (i.zero, i.size, i.bytes)) = some (some (.agg #[.int .i64 0, .string ⟨#[]⟩, .string ⟨#[]⟩, .bool false]), 4, 48) := by kernel_rfl
/-- Records' cells, one behind the other. -/
def recCells (l : List Cr.Rec) : List Value := l.flatMap fun x => [.int .i64 x.off, .string ⟨x.key.toArray⟩, .string ⟨x.val.toArray⟩, .bool x.gone]
theorem recCells_len (l : List Cr.Rec) : (recCells l).length = l.length * 4 := by
  induction l with
  | nil => rfl
  | cons x l ih => simp only [recCells, List.flatMap_cons, List.length_append, List.length_cons, List.length_nil] at ih ⊢; omega
theorem recCells_one (l : List Cr.Rec) : ∀ u ∈ recCells l, u.oneCell' = true := by
  intro u hu
  obtain ⟨x, _, hx⟩ := List.mem_flatMap.1 hu
  simp only [List.mem_cons, List.not_mem_nil, or_false] at hx
  rcases hx with rfl | rfl | rfl | rfl <;> rfl
theorem recCells_get : ∀ (l : List Cr.Rec) (k : Nat) (x : Cr.Rec), l[k]? = some x → (recCells l)[k * 4]? = some (.int .i64 x.off) ∧ (recCells l)[k * 4 + 1]? = some (.string ⟨x.key.toArray⟩) ∧ (recCells l)[k * 4 + 2]? = some (.string ⟨x.val.toArray⟩) ∧ (recCells l)[k * 4 + 3]? = some (.bool x.gone) := by
  intro l
  induction l with
  | nil => intro k x h; simp at h
  | cons y l ih =>
    intro k x h
    cases k with
    | zero =>
      simp at h
      subst h
      exact ⟨rfl, rfl, rfl, rfl⟩
    | succ k =>
      have e : recCells (y :: l) = [.int .i64 y.off, .string ⟨y.key.toArray⟩, .string ⟨y.val.toArray⟩, .bool y.gone] ++ recCells l := rfl
      have hk := ih k x (by simpa using h)
      rw [e, show (k + 1) * 4 = 4 + k * 4 by omega]
      simp only [List.cons_append, List.nil_append, Nat.add_assoc, Nat.add_comm 4, List.getElem?_cons_succ]
      exact hk
theorem recCells_set : ∀ (l : List Cr.Rec) (k : Nat) (x : Cr.Rec) (o : Int), l[k]? = some x → (recCells l).set (k * 4) (.int .i64 o) = recCells (l.set k { x with off := o }) := by
  intro l
  induction l with
  | nil => intro k x o h; simp at h
  | cons y l ih =>
    intro k x o h
    cases k with
    | zero =>
      simp at h
      subst h
      rfl
    | succ k =>
      have e : recCells (y :: l) = [.int .i64 y.off, .string ⟨y.key.toArray⟩, .string ⟨y.val.toArray⟩, .bool y.gone] ++ recCells l := rfl
      have hk := ih k x o (by simpa using h)
      rw [e, show (k + 1) * 4 = 4 + k * 4 by omega]
      simp only [List.cons_append, List.nil_append, Nat.add_comm 4, List.set_cons_succ]
      rw [hk]
      rfl
/-- A row of records of the call's own is a slice of records. -/
theorem Sl.recs {w : World} {B : Nat} {v : Value} {l : List Cr.Rec} (h : Sl w B 4 v l.length (recCells l)) : Recs w v l := by
  rcases h.2 with ⟨rfl, h0⟩ | ⟨g, off, cap, rfl, hB, hg, hn, hm, hr, ht⟩
  · exact ⟨none, 0, by rw [h0], fun i x hx => by
      have := (List.getElem?_eq_some_iff.1 hx).1
      omega⟩
  · refine ⟨_, cap, rfl, fun i x hx => ⟨g, off, rfl, hg, ?_⟩⟩
    obtain ⟨h0, h1, h2, h3⟩ := recCells_get l i x hx
    exact ⟨hr _ _ h0, by rw [Nat.add_assoc]; exact hr _ _ h1, by rw [Nat.add_assoc]; exact hr _ _ h2, by rw [Nat.add_assoc]; exact hr _ _ h3⟩
theorem Sl.recs' {w : World} {B n : Nat} {v : Value} {l : List Cr.Rec} (h : Sl w B 4 v n (recCells l)) (hn : l.length = n) : Recs w v l := by subst hn; exact h.recs
theorem recs_src {w : World} {l : List Cr.Rec} {g off cap : Nat} (h : Recs w (.slice (some ⟨g, off, none⟩) l.length cap) l) : ∀ j u, (recCells l)[j]? = some u → w.cell? ⟨g, off + j, none⟩ = some u := by
  obtain ⟨a, cap', he, hc⟩ := h
  injection he with e1 e2 e3
  subst e1
  intro j u hu
  have hj := (List.getElem?_eq_some_iff.1 hu).1
  rw [recCells_len] at hj
  obtain ⟨x, hx⟩ : ∃ x, l[j / 4]? = some x := ⟨l[j / 4]'(by omega), by simp⟩
  obtain ⟨g', off', e, hg, h1, h2, h3, h4⟩ := hc _ x hx
  injection e with e
  injection e with e1 e2
  subst e1 e2
  obtain ⟨q0, q1, q2, q3⟩ := recCells_get l _ x hx
  rcases (show j = j / 4 * 4 ∨ j = j / 4 * 4 + 1 ∨ j = j / 4 * 4 + 2 ∨ j = j / 4 * 4 + 3 by omega) with e | e | e | e
  · rw [e] at hu ⊢; rw [q0] at hu; injection hu with hu; subst hu; exact h1
  · rw [e] at hu ⊢; rw [q1] at hu; injection hu with hu; subst hu; rw [← Nat.add_assoc]; exact h2
  · rw [e] at hu ⊢; rw [q2] at hu; injection hu with hu; subst hu; rw [← Nat.add_assoc]; exact h3
  · rw [e] at hu ⊢; rw [q3] at hu; injection hu with hu; subst hu; rw [← Nat.add_assoc]; exact h4
set_option maxRecDepth 20000 in
set_option maxHeartbeats 800000 in
theorem clonerecs_any (l : List Cr.Rec) (hl : l.length ≤ 1000000) (rv : Value) (w : World) (h : Recs w rv l) :
    Calls Tryd.prog 51 #[rv] w fun e w' => ∃ v, e = .returned v ∧ Sl w' w.heap.size 4 v l.length (recCells l) ∧ Below w.heap.size w w' := by
  have heq : ∀ (a : Option Addr) (l c : Nat) (w : World), (binOp .eql 22 (.slice a l c) (.slice none 0 0)).run Tryd.prog w = .ok (.bool a.isNone) w := fun a l c w => Go.Lib.run_eql_slice_nil w 22 41 a l c 0 0 Tryd.underlying22
  obtain ⟨a, cap, rfl⟩ := h.form
  cases a with
  | none =>
    have h0 : l.length = 0 := by
      cases l with
      | nil => rfl
      | cons x l =>
        obtain ⟨a', cap', e, hc⟩ := h
        obtain ⟨g, off, e2, _⟩ := hc 0 x rfl
        injection e with e1
        rw [← e1] at e2
        cases e2
    obtain rfl : l = [] := List.eq_nil_of_length_eq_zero h0
    go_enter Tryd.func51, Tryd.ntmps51
    go_wp2
    go_ret
    exact ⟨_, rfl, Sl.nil _ _ _, Below.refl _ _⟩
  | some ad =>
    obtain ⟨i0, hi, hz0, hz1, hz2⟩ := info_parts recInfo
    have hmade : Hid ((w.alloc (.cells #[] 41)).ownsRow w.heap.size 41 4 (.slice (some ⟨w.heap.size, 0, none⟩) 0 0) 0 []) := World.ownsRow_made w #[] 0 (Nat.le_refl _) (by unfold maxLen; omega) rfl
    have hsrc : Hid (SrcIs (w.alloc (.cells #[] 41)) 4 (.slice (some ad) l.length cap) l.length (recCells l)) := by
      refine .inr ⟨_, _, rfl, recCells_len l, fun j u hu => ?_⟩
      cases l with
      | nil => simp [recCells] at hu
      | cons x l =>
        obtain ⟨a', cap', e, hc⟩ := id h
        obtain ⟨g, off, e2, hg, _⟩ := hc 0 x rfl
        injection e with e1
        rw [← e1] at e2
        injection e2 with e2
        subst e2
        have e3 : (⟨g, off, none⟩ : Addr).add j = ⟨g, off + j, none⟩ := by unfold Addr.add; split <;> simp_all
        rw [e3]
        exact ((Keeps.alloc (fun _ => False) w _).cell (a := ⟨g, off + j, none⟩) hg id).trans (recs_src h j u hu)
    have hone := recCells_one l
    clear h
    go_enter Tryd.func51, Tryd.ntmps51
    go_wp2_with (at_builtin; refine wpList_append_src rfl (.tmp 5) (.tmp 6) 22 rfl w.heap.size 41 i0 _ 4 48 Tryd.underlying22 hi hz0 hz1 hz2 rfl (by decide) _ _ _ rfl hmade.out _ _ _ rfl hsrc.out hone ?_ ?_ ?_ ?_)
    · unfold maxLen; omega
    · omega
    · simp
    intro v' w2 hown hgr
    have HS : Hid (Sl w2 w.heap.size 4 v' l.length (recCells l)) := by
      have := Sl.ofOwn hown
      show Sl _ _ _ _ _ _
      simpa using this
    have HB : Hid (Below w.heap.size w w2) := ((Below.refl _ _).alloc (Nat.le_refl _) _).grown hgr (by simp) (fun k hk => (hmade.out.lt k hk).1)
    clear hown hgr
    go_wp2
    go_ret
    exact ⟨v', rfl, HS.out, HB.out⟩
/-- What answers a batch and an error number. -/
def zeroBat : Cr.Batch := ⟨0, 0, 0, 0, 0, []⟩
def BatR (w : World) (o : Option Cr.Batch) (bad : Int) (e : Ending) (w' : World) : Prop :=
  ∃ rv, e = .returned (.tuple #[batV (o.getD zeroBat) rv, .int .i64 (if o.isSome then 0 else bad)]) ∧ Recs w' rv (o.getD zeroBat).recs ∧ Below w.heap.size w w'
theorem recs_none (w : World) : Recs w (.slice none 0 0) [] := ⟨none, 0, rfl, fun i x h => by simp at h⟩
def zeroCells : List Value := [.int .i64 0, .int .i64 0, .int .i64 0, .int .i64 0, .int .i64 0, .slice none 0 0]
theorem BatR.no {w w' : World} {bad : Int} (h : Below w.heap.size w w') : BatR w none bad (.returned (.tuple #[.agg zeroCells.toArray, .int .i64 bad])) w' := ⟨.slice none 0 0, rfl, recs_none w', h⟩
/-- The first k records at their offsets. -/
def mix (base : Int) (l : List Cr.Rec) (k : Nat) : List Cr.Rec := (Cr.offs base l).take k ++ l.drop k
theorem mix_len (base : Int) (l : List Cr.Rec) (k : Nat) : (mix base l k).length = l.length := by
  have := Cr.offs_length l base
  simp only [mix, List.length_append, List.length_take, List.length_drop]
  omega
theorem mix_zero (base : Int) (l : List Cr.Rec) : mix base l 0 = l := by simp [mix]
theorem mix_all (base : Int) (l : List Cr.Rec) : mix base l l.length = Cr.offs base l := by
  have := Cr.offs_length l base
  rw [mix, List.drop_length, List.append_nil, List.take_of_length_le (by omega)]
theorem mix_at (base : Int) (l : List Cr.Rec) (k : Nat) (x : Cr.Rec) (h : l[k]? = some x) : (mix base l k)[k]? = some x := by
  obtain ⟨hk, rfl⟩ := List.getElem?_eq_some_iff.1 h
  have hl := Cr.offs_length l base
  rw [mix, List.getElem?_append_right (by rw [List.length_take]; omega), List.getElem?_drop, List.length_take, Nat.min_eq_left (by omega), Nat.sub_self, Nat.add_zero, List.getElem?_eq_getElem hk]
theorem mix_set (base : Int) (l : List Cr.Rec) (k : Nat) (x : Cr.Rec) (h : l[k]? = some x) : (mix base l k).set k { x with off := base + k } = mix base l (k + 1) := by
  obtain ⟨hk, e⟩ := List.getElem?_eq_some_iff.1 h
  have hl := Cr.offs_length l base
  have ho := Cr.offs_get l base k
  rw [h, Option.map_some] at ho
  rw [mix, mix, List.set_append_right _ _ (by rw [List.length_take]; omega), List.length_take, Nat.min_eq_left (by omega), Nat.sub_self, List.drop_eq_getElem_cons hk, List.set_cons_zero]
  have hk2 : k < (Cr.offs base l).length := by omega
  rw [List.take_succ_eq_append_getElem hk2, List.append_assoc]
  congr 1
  rw [List.singleton_append]
  congr 1
  rw [List.getElem?_eq_getElem hk2] at ho
  injection ho with ho
  exact ho.symm
theorem batOk_packed {l : List Cr.Rec} (hok : ∀ x ∈ l, RecOk x) (hl : l.length ≤ 8) {base prod seq time : Int} (hb : Cr.isNum base = true) (hp : Bd.inR prod) (hs : Bd.inR seq) (ht : Bd.inR time) : BatOk (Cr.packed l base prod seq time) := by
  refine ⟨Cr.inR_num hb, ⟨by simp only [Cr.packed]; omega, by simp only [Cr.packed]; omega⟩, hp, hs, ht, by simp only [Cr.packed, Cr.offs_length]; unfold maxLen; omega, fun x hx => ?_⟩
  obtain ⟨i, hi⟩ := List.getElem?_of_mem hx
  rw [show (Cr.packed l base prod seq time).recs = Cr.offs base l from rfl, Cr.offs_get] at hi
  cases hli : l[i]? with
  | none => rw [hli] at hi; cases hi
  | some y =>
    rw [hli, Option.map_some] at hi
    injection hi with hi
    subst hi
    have hi2 := (List.getElem?_eq_some_iff.1 hli).1
    have hy := hok y (List.mem_of_getElem? hli)
    simp only [Cr.isNum, Bool.and_eq_true, decide_eq_true_eq] at hb
    exact ⟨⟨by simp only; omega, by simp only; omega⟩, hy.2.1, hy.2.2⟩
set_option maxRecDepth 20000 in
set_option maxHeartbeats 6400000 in
theorem pack_any (l : List Cr.Rec) (hok : ∀ x ∈ l, RecOk x) (hl : l.length ≤ maxLen) (base prod seq time : Int) (hb : Bd.inR base) (hp : Bd.inR prod) (hs : Bd.inR seq) (ht : Bd.inR time) (rv : Value) (w : World) (h : Recs w rv l) :
    Calls Tryd.prog 23 #[rv, .int .i64 base, .int .i64 prod, .int .i64 seq, .int .i64 time] w (BatR w (Cr.pack l base prod seq time) 1) := by
  have HF := Lib.hid (fun W (hW : Below w.heap.size w W) => fits_any l hok hl rv W (h.kept hW))
  have B1 : Hid (Below w.heap.size w (w.alloc (.cells #[.int .i64 0, .int .i64 0, .int .i64 0, .int .i64 0, .int .i64 0, .slice none 0 0] 24))) := (Below.refl _ _).alloc (Nat.le_refl _) _
  have C1 : Hid (Cl (w.alloc (.cells #[.int .i64 0, .int .i64 0, .int .i64 0, .int .i64 0, .int .i64 0, .slice none 0 0] 24)) w.heap.size zeroCells 24) := Cl.new w zeroCells 24
  have hs1 := World.size_alloc w (.cells #[.int .i64 0, .int .i64 0, .int .i64 0, .int .i64 0, .int .i64 0, .slice none 0 0] 24)
  have HP : Hid (Cr.pack l base prod seq time = if Cr.fits l && Cr.isNum base && Cr.good (Cr.packed l base prod seq time) then some (Cr.packed l base prod seq time) else none) := rfl
  have HZ := Lib.hid h
  have HOK := Lib.hid hok
  clear h
  cases hf : Cr.fits l with
  | false =>
    rw [hf] at HF HP
    clear hf
    go_enter Tryd.func23, Tryd.ntmps23
    go_wp2_with fail
    refine (HF.out _ B1.out).mono ?_
    rintro e w2 ⟨rfl, hb2⟩
    have B2 := Lib.hid (bt B1.out hb2)
    have C2 := Lib.hid (C1.out.below hb2)
    obtain ⟨c0, c1, c2, c3, c4, c5⟩ := C2.out.cell6
    obtain ⟨f0, f1, f2, f3, f4, f5⟩ := C2.out.free6
    clear C1 B1 hb2
    go_wp2
    have C3 := (((((C2.out.set 0 (.int .i64 0)).set 1 (.int .i64 0)).set 2 (.int .i64 0)).set 3 (.int .i64 0)).set 4 (.int .i64 0)).set 5 (.slice none 0 0)
    refine bodyPost_ret (results_cl_tmp rfl _ _ _ _ _ _ rfl C3 Tryd.underlying24 rfl (by kernel_rfl)) rfl ?_
    rw [HP.out]
    exact BatR.no ((((((B2.out.setCell (p := ⟨w.heap.size, 0, none⟩) (Nat.le_refl _) _).setCell (p := ⟨w.heap.size, 1, none⟩) (Nat.le_refl _) _).setCell (p := ⟨w.heap.size, 2, none⟩) (Nat.le_refl _) _).setCell (p := ⟨w.heap.size, 3, none⟩) (Nat.le_refl _) _).setCell (p := ⟨w.heap.size, 4, none⟩) (Nat.le_refl _) _).setCell (p := ⟨w.heap.size, 5, none⟩) (Nat.le_refl _) _)
  | true =>
    have hl8 : l.length ≤ 8 := by
      simp only [Cr.fits, Bool.and_eq_true, decide_eq_true_eq] at hf
      exact hf.2.1
    rw [hf] at HF HP
    clear hf
    have HN := Lib.hid (fun W => isNum_any base W)
    cases hn : Cr.isNum base with
    | false =>
      rw [hn] at HN HP
      clear hn
      go_enter Tryd.func23, Tryd.ntmps23
      go_wp2_with fail
      refine (HF.out _ B1.out).mono ?_
      rintro e w2 ⟨rfl, hb2⟩
      have B2 := Lib.hid (bt B1.out hb2)
      have C2 := Lib.hid (C1.out.below hb2)
      obtain ⟨c0, c1, c2, c3, c4, c5⟩ := C2.out.cell6
      obtain ⟨f0, f1, f2, f3, f4, f5⟩ := C2.out.free6
      clear C1 B1 hb2
      go_wp2_with fail
      refine (HN.out _).mono ?_
      rintro e w2 ⟨rfl, rfl⟩
      go_wp2
      have C3 := (((((C2.out.set 0 (.int .i64 0)).set 1 (.int .i64 0)).set 2 (.int .i64 0)).set 3 (.int .i64 0)).set 4 (.int .i64 0)).set 5 (.slice none 0 0)
      refine bodyPost_ret (results_cl_tmp rfl _ _ _ _ _ _ rfl C3 Tryd.underlying24 rfl (by kernel_rfl)) rfl ?_
      rw [HP.out]
      exact BatR.no ((((((B2.out.setCell (p := ⟨w.heap.size, 0, none⟩) (Nat.le_refl _) _).setCell (p := ⟨w.heap.size, 1, none⟩) (Nat.le_refl _) _).setCell (p := ⟨w.heap.size, 2, none⟩) (Nat.le_refl _) _).setCell (p := ⟨w.heap.size, 3, none⟩) (Nat.le_refl _) _).setCell (p := ⟨w.heap.size, 4, none⟩) (Nat.le_refl _) _).setCell (p := ⟨w.heap.size, 5, none⟩) (Nat.le_refl _) _)
    | true =>
      have HBO := Lib.hid (batOk_packed hok hl8 hn hp hs ht)
      have hbr : 0 ≤ base ∧ base ≤ 1099511627776 := by simpa only [Cr.isNum, Bool.and_eq_true, decide_eq_true_eq] using hn
      obtain ⟨hb0, hb1⟩ := hbr
      rw [hn] at HN HP
      clear hn hok
      obtain ⟨a0, cap0, rfl⟩ := HZ.out.form
      go_enter Tryd.func23, Tryd.ntmps23
      go_wp2_with fail
      refine (HF.out _ B1.out).mono ?_
      rintro e w2 ⟨rfl, hb2⟩
      have B2 := Lib.hid (bt B1.out hb2)
      have C2 := Lib.hid (C1.out.below hb2)
      have hs2 := hb2.size
      clear C1 B1 hb2
      go_wp2_with fail
      refine (HN.out _).mono ?_
      rintro e w2 ⟨rfl, rfl⟩
      go_wp2_with fail
      refine (clonerecs_any l (by omega) _ w2 (HZ.out.kept B2.out)).mono ?_
      rintro e w3 ⟨v, rfl, hsl, hb3⟩
      have S3 := Lib.hid hsl
      have C3 := Lib.hid (C2.out.below hb3)
      have B3 := Lib.hid (bt B2.out hb3)
      have hs3 := hb3.size
      have hv1 : v.ownBlock ≠ some w.heap.size := fun e => by have := hsl.lt _ e; omega
      have hv2 : v.ownBlock ≠ some w3.heap.size := fun e => by have := hsl.lt _ e; omega
      have hvf := Lib.hid hsl.form
      clear hsl hb3 C2 B2 HF
      have HC : Hid (Cl (w3.alloc (.cells #[.int .i64 base, .int .i64 l.length, .int .i64 prod, .int .i64 seq, .int .i64 time, v] 24)) w3.heap.size [.int .i64 base, .int .i64 l.length, .int .i64 prod, .int .i64 seq, .int .i64 time, v] 24) := Cl.new w3 _ _
      have C4 : Hid (Cl (w3.alloc (.cells #[.int .i64 base, .int .i64 l.length, .int .i64 prod, .int .i64 seq, .int .i64 time, v] 24)) w.heap.size zeroCells 24) := C3.out.alloc _
      have S4 : Hid (Sl (w3.alloc (.cells #[.int .i64 base, .int .i64 l.length, .int .i64 prod, .int .i64 seq, .int .i64 time, v] 24)) w2.heap.size 4 v l.length (recCells (mix base l 0))) := by
        rw [Hid, mix_zero]
        exact S3.out.kept (Keeps.alloc (fun _ => False) _ _) (fun _ _ h => h)
      have B4 : Hid (Below w.heap.size w (w3.alloc (.cells #[.int .i64 base, .int .i64 l.length, .int .i64 prod, .int .i64 seq, .int .i64 time, v] 24))) := B3.out.alloc B3.out.size _
      obtain ⟨av, capv, rfl, hcle, hav⟩ := hvf.out
      clear hvf
      obtain ⟨c0, c1, c2, c3, c4, c5⟩ := HC.out.cell6
      clear C3 B3 S3
      go_wp2
      generalize w3.alloc (.cells #[.int .i64 base, .int .i64 l.length, .int .i64 prod, .int .i64 seq, .int .i64 time, .slice av l.length capv] 24) = w4 at *
      go_loopw [35] (fun i wr => ∃ k : Nat, i = .int .i64 k ∧ k ≤ l.length ∧ Sl wr w2.heap.size 4 (.slice av l.length capv) l.length (recCells (mix base l k)) ∧ Cl wr w.heap.size zeroCells 24 ∧ Cl wr w3.heap.size [.int .i64 base, .int .i64 l.length, .int .i64 prod, .int .i64 seq, .int .i64 time, .slice av l.length capv] 24 ∧ Below w.heap.size w wr) (fun i _ => l.length - (intOf i).toNat)
      case atStart => exact ⟨0, rfl, by omega, S4.out, C4.out, HC.out, B4.out⟩
      case round =>
        obtain ⟨k, rfl, hk, hsl, hcz, hcb, hb⟩ := hrel
        have S5 := Lib.hid hsl
        have Z5 := Lib.hid hcz
        have C5 := Lib.hid hcb
        have B5 := Lib.hid hb
        clear hsl hcz hcb hb S4 C4 HC B4 c0 c1 c2 c3 c4 c5
        obtain ⟨c0, c1, c2, c3, c4, c5⟩ := C5.out.cell6
        by_cases hlt : k < l.length
        · obtain ⟨x, hx⟩ : ∃ x, l[k]? = some x := ⟨l[k], by simp [hlt]⟩
          obtain ⟨g, off, cap', u0, he, hgB, hu0, hfr, hset⟩ := S5.out.setc (k * 4) (by omega) (.int .i64 (base + k))
          rw [recCells_set (mix base l k) k x (base + k) (mix_at base l k x hx), mix_set base l k x hx] at hset
          injection he with he1 he2 he3
          subst he1 he3
          have hg1 : g ≠ w.heap.size := fun e => hv1 (by rw [← e]; rfl)
          have hg2 : g ≠ w3.heap.size := fun e => hv2 (by rw [← e]; rfl)
          have S6 := Lib.hid hset
          have Z6 := Lib.hid (Z5.out.other ⟨g, off + k * 4, none⟩ (.int .i64 (base + k)) hg1)
          have C6 := Lib.hid (C5.out.other ⟨g, off + k * 4, none⟩ (.int .i64 (base + k)) hg2)
          have B6 := Lib.hid (B5.out.setCell (p := ⟨g, off + k * 4, none⟩) (by simp only; omega) (.int .i64 (base + k)))
          clear hset he2 S5 Z5 C5 B5
          go_wp2
          go_roundw
          case rel => exact ⟨k + 1, by go_num, by omega, S6.out, Z6.out, C6.out, B6.out⟩
          case measure => simp [intOf]; omega
        · obtain rfl : k = l.length := by omega
          have R5 : Hid (Recs wr (.slice av l.length capv) (Cr.packed l base prod seq time).recs) := by
            have h1 := S5.out
            rw [mix_all] at h1
            have h2 : Sl wr w2.heap.size 4 (.slice av l.length capv) (Cr.offs base l).length (recCells (Cr.offs base l)) := by rw [Cr.offs_length]; exact h1
            exact h2.recs
          have HG := Lib.hid (good_any _ HBO.out _ _ R5.out)
          unfold batV at HG
          rw [show (Cr.packed l base prod seq time).base = base from rfl, show (Cr.packed l base prod seq time).count = (l.length : Int) from rfl, show (Cr.packed l base prod seq time).prod = prod from rfl, show (Cr.packed l base prod seq time).seq = seq from rfl, show (Cr.packed l base prod seq time).time = time from rfl] at HG
          cases hgd : Cr.good (Cr.packed l base prod seq time) with
          | false =>
            rw [hgd] at HG HP
            clear hgd
            go_wp2_with fail
            refine HG.out.mono ?_
            rintro e w7 ⟨rfl, hb7⟩
            have Z7 := Lib.hid (Z5.out.below hb7)
            have B7 := Lib.hid (bt B5.out hb7)
            clear hb7 HG
            obtain ⟨z0, z1, z2, z3, z4, z5⟩ := Z7.out.cell6
            obtain ⟨f0, f1, f2, f3, f4, f5⟩ := Z7.out.free6
            go_wp2
            have Z8 := (((((Z7.out.set 0 (.int .i64 0)).set 1 (.int .i64 0)).set 2 (.int .i64 0)).set 3 (.int .i64 0)).set 4 (.int .i64 0)).set 5 (.slice none 0 0)
            refine bodyPost_ret (results_cl_tmp rfl _ _ _ _ _ _ rfl Z8 Tryd.underlying24 rfl (by kernel_rfl)) rfl ?_
            rw [HP.out]
            exact BatR.no ((((((B7.out.setCell (p := ⟨w.heap.size, 0, none⟩) (Nat.le_refl _) _).setCell (p := ⟨w.heap.size, 1, none⟩) (Nat.le_refl _) _).setCell (p := ⟨w.heap.size, 2, none⟩) (Nat.le_refl _) _).setCell (p := ⟨w.heap.size, 3, none⟩) (Nat.le_refl _) _).setCell (p := ⟨w.heap.size, 4, none⟩) (Nat.le_refl _) _).setCell (p := ⟨w.heap.size, 5, none⟩) (Nat.le_refl _) _)
          | true =>
            rw [hgd] at HG HP
            clear hgd
            go_wp2_with fail
            refine HG.out.mono ?_
            rintro e w7 ⟨rfl, hb7⟩
            have Z7 := Lib.hid (Z5.out.below hb7)
            have C7 := Lib.hid (C5.out.below hb7)
            have B7 := Lib.hid (bt B5.out hb7)
            have S7 := Lib.hid (S5.out.kept (Keeps.below (fun _ => False) hb7) (fun _ _ h => h))
            clear hb7 HG c0 c1 c2 c3 c4 c5 R5
            obtain ⟨c0, c1, c2, c3, c4, c5⟩ := C7.out.cell6
            obtain ⟨z0, z1, z2, z3, z4, z5⟩ := Z7.out.cell6
            obtain ⟨f0, f1, f2, f3, f4, f5⟩ := Z7.out.free6
            go_wp2
            have Z8 := (((((Z7.out.set 0 (.int .i64 base)).set 1 (.int .i64 l.length)).set 2 (.int .i64 prod)).set 3 (.int .i64 seq)).set 4 (.int .i64 time)).set 5 (.slice av l.length capv)
            have S8 := (((((S7.out.otherCell ⟨w.heap.size, 0, none⟩ (.int .i64 base) hv1).otherCell ⟨w.heap.size, 1, none⟩ (.int .i64 l.length) hv1).otherCell ⟨w.heap.size, 2, none⟩ (.int .i64 prod) hv1).otherCell ⟨w.heap.size, 3, none⟩ (.int .i64 seq) hv1).otherCell ⟨w.heap.size, 4, none⟩ (.int .i64 time) hv1).otherCell ⟨w.heap.size, 5, none⟩ (.slice av l.length capv) hv1
            refine bodyPost_ret (results_cl_tmp rfl _ _ _ _ _ _ rfl Z8 Tryd.underlying24 rfl (by kernel_rfl)) rfl ?_
            rw [HP.out]
            refine ⟨.slice av l.length capv, rfl, ?_, (((((B7.out.setCell (p := ⟨w.heap.size, 0, none⟩) (Nat.le_refl _) _).setCell (p := ⟨w.heap.size, 1, none⟩) (Nat.le_refl _) _).setCell (p := ⟨w.heap.size, 2, none⟩) (Nat.le_refl _) _).setCell (p := ⟨w.heap.size, 3, none⟩) (Nat.le_refl _) _).setCell (p := ⟨w.heap.size, 4, none⟩) (Nat.le_refl _) _).setCell (p := ⟨w.heap.size, 5, none⟩) (Nat.le_refl _) _⟩
            rw [mix_all] at S8
            exact Sl.recs' S8 (Cr.offs_length _ _)

end Go.Proofs.YtegaonoobjeneaaDoor
