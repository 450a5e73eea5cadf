/-
  Thin, walked.
  Conditions: the model's bounds.
-/
import Derived.Test.YtccndbifnbmddaaWe
set_option linter.unusedVariables false
set_option linter.unusedSimpArgs false
namespace Go.Proofs.Ytccndbifnbmddaa
open Go.RowKit

def thinB (ok : Bool) (high : Int) (late : LM) (now hor : Int) (b : Cr.Batch) : Cr.Batch := { b with recs := b.recs.filter (fun x => !useless ⟨ok, high, late, b.time, now, hor⟩ x) }
def thin (l : List Cr.Batch) (high now hor : Int) : List Cr.Batch := l.map (thinB (isT now && isT hor) high (lastL high l) now hor)
def BatsR (w : World) (l : List Cr.Batch) (e : Ending) (w' : World) : Prop := ∃ v, e = .returned v ∧ Bats w' v l ∧ Below w.heap.size w w'
/-- What the boxes hold. -/
structure ThW (w : World) (po ph pl pn pz m : Nat) (u : Us) : Prop where
  co : Cl w po [.bool u.ok] 4
  ch : Cl w ph [.int .i64 u.high] 3
  cl : Cl w pl [.map (some m)] 50
  cn : Cl w pn [.int .i64 u.now] 3
  cz : Cl w pz [.int .i64 u.hor] 3
  M : Mp w m (imap u.late)
theorem ThW.keep {S : Nat → Prop} {w w' : World} {po ph pl pn pz m : Nat} {u : Us} (h : ThW w po ph pl pn pz m u) (k : Keeps S w w') (hs : ∀ j, j < w.heap.size → (j = po ∨ j = ph ∨ j = pl ∨ j = pn ∨ j = pz ∨ j = m) → ¬ S j) : ThW w' po ph pl pn pz m u :=
  ⟨h.co.keep k (hs _ h.co.lt (by simp)), h.ch.keep k (hs _ h.ch.lt (by simp)), h.cl.keep k (hs _ h.cl.lt (by simp)), h.cn.keep k (hs _ h.cn.lt (by simp)), h.cz.keep k (hs _ h.cz.lt (by simp)), h.M.kept k (hs _ h.M.lt (by simp))⟩
theorem ThW.below {w w' : World} {po ph pl pn pz m : Nat} {u : Us} (h : ThW w po ph pl pn pz m u) (hb : Below w.heap.size w w') : ThW w' po ph pl pn pz m u := h.keep (Keeps.below (fun _ => False) hb) (fun _ _ _ => id)
theorem ThW.lt {w : World} {po ph pl pn pz m : Nat} {u : Us} (h : ThW w po ph pl pn pz m u) : ∀ j, (j = po ∨ j = ph ∨ j = pl ∨ j = pn ∨ j = pz ∨ j = m) → j < w.heap.size := by
  rintro j (rfl | rfl | rfl | rfl | rfl | rfl)
  · exact h.co.lt
  · exact h.ch.lt
  · exact h.cl.lt
  · exact h.cn.lt
  · exact h.cz.lt
  · exact h.M.lt
theorem thin_step {α : Type} (f : α → α) (l : List α) (k : Nat) (x : α) (h : l[k]? = some x) : ((l.map f).take k ++ l.drop k).set k (f x) = (l.map f).take (k + 1) ++ l.drop (k + 1) := by
  obtain ⟨hk, rfl⟩ := List.getElem?_eq_some_iff.1 h
  rw [List.drop_eq_getElem_cons hk, List.set_append_right _ _ (by rw [List.length_take, List.length_map]; omega), List.length_take, List.length_map, Nat.min_eq_left (by omega), Nat.sub_self, List.set_cons_zero]
  have hk2 : k < (l.map f).length := by rw [List.length_map]; exact hk
  rw [List.take_succ_eq_append_getElem hk2, List.append_assoc, List.getElem_map]
  rfl
theorem thin_at {α : Type} (f : α → α) (l : List α) (k : Nat) (x : α) (h : l[k]? = some x) : ((l.map f).take k ++ l.drop k)[k]? = some x := by
  obtain ⟨hk, rfl⟩ := List.getElem?_eq_some_iff.1 h
  rw [List.getElem?_append_right (by rw [List.length_take]; omega), List.getElem?_drop, List.length_take, List.length_map, Nat.min_eq_left (by omega), Nat.sub_self, Nat.add_zero, List.getElem?_eq_getElem hk]
/-- What the row holds ahead of round k. -/
structure ThL (w : World) (B g : Nat) (v : Value) (f : Cr.Batch → Cr.Batch) (l : List Cr.Batch) (k : Nat) (L : List BV) : Prop where
  sl : Sl w B 6 v l.length (bvCells L)
  map : L.map (·.1) = (l.map f).take k ++ l.drop k
  recs : ∀ q ∈ L, RecsB w g q.2 q.1.recs
theorem ThL.len {w : World} {B g : Nat} {v : Value} {f : Cr.Batch → Cr.Batch} {l : List Cr.Batch} {k : Nat} {L : List BV} (h : ThL w B g v f l k L) (hk : k ≤ l.length) : L.length = l.length := by
  have := congrArg List.length h.map
  simp only [List.length_map, List.length_append, List.length_take, List.length_drop] at this
  omega
theorem ThL.get {w : World} {B g : Nat} {v : Value} {f : Cr.Batch → Cr.Batch} {l : List Cr.Batch} {k : Nat} {L : List BV} (h : ThL w B g v f l k L) {b : Cr.Batch} (hb : l[k]? = some b) :
    ∃ rv, L[k]? = some (b, rv) ∧ RecsB w g rv b.recs := by
  have h1 := thin_at f l k b hb
  rw [← h.map, List.getElem?_map] at h1
  cases hq : L[k]? with
  | none => rw [hq] at h1; cases h1
  | some q =>
    rw [hq] at h1
    simp only [Option.map_some, Option.some.injEq] at h1
    subst h1
    exact ⟨q.2, rfl, h.recs q (List.mem_of_getElem? hq)⟩
theorem ThL.keep {w w' : World} {S : Nat → Prop} {B g : Nat} {v : Value} {f : Cr.Batch → Cr.Batch} {l : List Cr.Batch} {k : Nat} {L : List BV} (h : ThL w B g v f l k L) (hk : Keeps S w w') (hs : ∀ j, j < w.heap.size → ¬ S j) : ThL w' B g v f l k L :=
  ⟨h.sl.kept hk (fun j hj => hs j (h.sl.lt j hj).2), h.map, fun q hq => (h.recs q hq).keep hk (fun j hj e => absurd e (hs j hj))⟩
theorem ThL.step {w : World} {B g off cap : Nat} {f : Cr.Batch → Cr.Batch} {l : List Cr.Batch} {k : Nat} {L : List BV} (h : ThL w B g (.slice (some ⟨g, off, none⟩) l.length cap) f l k L) {b : Cr.Batch} (hb : l[k]? = some b) (hk : k < l.length) (rv : Value) (hf : f b = { b with recs := (f b).recs }) (hr : RecsB w g rv (f b).recs) :
    ∃ u0, w.cell? ⟨g, off + k * 6 + 5, none⟩ = some u0 ∧ w.frozen? ⟨g, off + k * 6 + 5, none⟩ = false ∧ ThL (w.setCell ⟨g, off + k * 6 + 5, none⟩ rv) B g (.slice (some ⟨g, off, none⟩) l.length cap) f l (k + 1) (L.set k (f b, rv)) := by
  obtain ⟨rv0, hq, _⟩ := h.get hb
  obtain ⟨g1, off1, cap1, u0, hv, hB, hc, hfr, hset⟩ := h.sl.setc (k * 6 + 5) (by omega) rv
  cases hv
  rw [bvCells_set L k (b, rv0) (f b).recs rv hq] at hset
  dsimp only at hset
  rw [← hf] at hset
  rw [← Nat.add_assoc] at hc hfr hset
  refine ⟨u0, hc, hfr, hset, ?_, fun q hq2 => ?_⟩
  · rw [List.map_set, h.map]
    exact thin_step f l k b hb
  · rcases List.mem_or_eq_of_mem_set hq2 with h2 | h2
    · exact (h.recs q h2).keep (S := fun j => j = g) (Keeps.setCell _ _ _ _ rfl) (fun j _ e => e)
    · subst h2
      exact hr.keep (S := fun j => j = g) (Keeps.setCell _ _ _ _ rfl) (fun j _ e => e)
theorem isT_and (now hor : Int) : (isT now && isT hor) = true → isT now = true ∧ isT hor = true := by
  intro h
  simpa using h
set_option maxRecDepth 20000 in
set_option maxHeartbeats 6400000 in
theorem thin_any (l : List Cr.Batch) (high now hor : Int) (v : Value) (w : World) (h : Bats w v l) (hl : l.length ≤ 1000000) (hrl : ∀ b ∈ l, b.recs.length ≤ 1000000) (hkl : ∀ b ∈ l, ∀ x ∈ b.recs, x.key.length ≤ maxLen) :
    Calls Try.prog 13 #[v, .int .i64 high, .int .i64 now, .int .i64 hor] w (BatsR w (thin l high now hor)) := by
  have HB := Lib.hid h
  have HRL := Lib.hid hrl
  have HKL := Lib.hid hkl
  obtain ⟨a, cap, rfl⟩ := h.form
  have hl2 : l.length ≤ maxLen := by unfold maxLen; omega
  have hrl2 : ∀ b ∈ l, b.recs.length ≤ maxLen := fun b hb => by have := hrl b hb; unfold maxLen; omega
  have HL2 := Lib.hid hrl2
  clear h hrl hkl hrl2
  have B3 : Hid (Below w.heap.size w (((w.alloc (.cells #[.int .i64 high] 3)).alloc (.cells #[.int .i64 now] 3)).alloc (.cells #[.int .i64 hor] 3))) := (((Below.refl _ _).alloc (Nat.le_refl _) _).alloc (by simp) _).alloc (by simp; omega) _
  have C1 : Hid (Cl (((w.alloc (.cells #[.int .i64 high] 3)).alloc (.cells #[.int .i64 now] 3)).alloc (.cells #[.int .i64 hor] 3)) w.heap.size [.int .i64 high] 3) := ((Cl.new w [.int .i64 high] 3).alloc _).alloc _
  have C2 : Hid (Cl (((w.alloc (.cells #[.int .i64 high] 3)).alloc (.cells #[.int .i64 now] 3)).alloc (.cells #[.int .i64 hor] 3)) (w.heap.size + 1) [.int .i64 now] 3) := by
    have := ((Cl.new (w.alloc (.cells #[.int .i64 high] 3)) [.int .i64 now] 3).alloc (.cells #[.int .i64 hor] 3))
    rwa [show (w.alloc (.cells #[.int .i64 high] 3)).heap.size = w.heap.size + 1 from by simp] at this
  have C3 : Hid (Cl (((w.alloc (.cells #[.int .i64 high] 3)).alloc (.cells #[.int .i64 now] 3)).alloc (.cells #[.int .i64 hor] 3)) (w.heap.size + 1 + 1) [.int .i64 hor] 3) := by
    have := (Cl.new ((w.alloc (.cells #[.int .i64 high] 3)).alloc (.cells #[.int .i64 now] 3)) [.int .i64 hor] 3)
    rwa [show ((w.alloc (.cells #[.int .i64 high] 3)).alloc (.cells #[.int .i64 now] 3)).heap.size = w.heap.size + 1 + 1 from by simp] at this
  have HTT := Lib.hid (isT_and now hor)
  have HTH : Hid (thin l high now hor = l.map (thinB (isT now && isT hor) high (lastL high l) now hor)) := rfl
  go_enter Try.func13, Try.ntmps13
  go_upto_region 1 with (fail)
  generalize ((w.alloc (.cells #[.int .i64 high] 3)).alloc (.cells #[.int .i64 now] 3)).alloc (.cells #[.int .i64 hor] 3) = w1 at *
  generalize hpz : w.heap.size + 1 + 1 = pz at *
  clear hpz
  generalize hpn : w.heap.size + 1 = pn at C2 ⊢
  clear hpn
  generalize hph : w.heap.size = ph at C1 ⊢
  have LPH := Lib.hid hph
  clear hph
  have c1 := C1.out.cell 0
  simp only [List.getElem?_cons_zero] at c1
  go_wp2_with fail
  refine (last_any l high _ w1 (HB.out.kept B3.out) hl2 HL2.out).mono ?_
  rintro e w2 ⟨m, rfl, hM, hm, hb⟩
  have M2 := Lib.hid hM
  have B2 := Lib.hid (bt B3.out hb)
  have D1 := Lib.hid (C1.out.below hb)
  have D2 := Lib.hid (C2.out.below hb)
  have D3 := Lib.hid (C3.out.below hb)
  clear hM hm hb C1 C2 C3 B3 c1 HL2 hl2
  generalize lastL high l = late at *
  have E0 : Hid (Cl (w2.alloc (.cells #[.map (some m)] 50)) w2.heap.size [.map (some m)] 50) := Cl.new w2 _ _
  have E1 := Lib.hid (D1.out.alloc (.cells #[.map (some m)] 50))
  have E2 := Lib.hid (D2.out.alloc (.cells #[.map (some m)] 50))
  have E3 := Lib.hid (D3.out.alloc (.cells #[.map (some m)] 50))
  have EM := Lib.hid (M2.out.below ((Below.refl w2.heap.size w2).alloc (Nat.le_refl _) (.cells #[.map (some m)] 50)))
  have EB := Lib.hid (bt B2.out ((Below.refl w2.heap.size w2).alloc (Nat.le_refl _) (.cells #[.map (some m)] 50)))
  go_upto_region 2 with (fail)
  generalize w2.alloc (.cells #[.map (some m)] 50) = w4 at *
  generalize w2.heap.size = pl at E0 ⊢
  clear D1 D2 D3 M2 B2
  have e2 := E2.out.cell 0
  have e3 := E3.out.cell 0
  simp only [List.getElem?_cons_zero] at e2 e3
  have HOT : Hid (isT now = true → isT hor = (isT now && isT hor)) := fun h => by rw [h]; rfl
  have HOF : Hid (isT now = false → (isT now && isT hor) = false) := fun h => by rw [h]; rfl
  generalize (isT now && isT hor) = ok at *
  have F0 : Hid (Cl (w4.alloc (.cells #[.bool ok] 4)) w4.heap.size [.bool ok] 4) := Cl.new w4 _ _
  have F1 := Lib.hid (E1.out.alloc (.cells #[.bool ok] 4))
  have F2 := Lib.hid (E2.out.alloc (.cells #[.bool ok] 4))
  have F3 := Lib.hid (E3.out.alloc (.cells #[.bool ok] 4))
  have F4 := Lib.hid (E0.out.alloc (.cells #[.bool ok] 4))
  have FM := Lib.hid (EM.out.below ((Below.refl w4.heap.size w4).alloc (Nat.le_refl _) (.cells #[.bool ok] 4)))
  have FB := Lib.hid (bt EB.out ((Below.refl w4.heap.size w4).alloc (Nat.le_refl _) (.cells #[.bool ok] 4)))
  clear E0 E1 E2 E3 EM EB
  have hcs : isT now = true ∨ isT now = false := by cases isT now <;> simp
  rcases hcs with hn | hn
  case' inl =>
    go_wp2_with fail
    refine (isTime_any now w4).mono ?_
    rintro e w5 ⟨rfl, rfl⟩
    rw [hn]
    go_wp2_with fail
    refine (isTime_any hor w4).mono ?_
    rintro e w5 ⟨rfl, rfl⟩
    rw [HOT.out hn]
    go_upto_region 3 with (fail)
  case' inr =>
    go_wp2_with fail
    refine (isTime_any now w4).mono ?_
    rintro e w5 ⟨rfl, rfl⟩
    rw [hn]
    go_upto_region 3 with (fail)
    rw [show w4.alloc (.cells #[.bool false] 4) = w4.alloc (.cells #[.bool ok] 4) from by rw [HOF.out hn]]
  all_goals
    clear hn HOT HOF e2 e3
    generalize w4.alloc (.cells #[.bool ok] 4) = w5 at *
    generalize w4.heap.size = po at F0 ⊢
    have T5 : Hid (ThW w5 po ph pl pn pz m ⟨ok, high, late, 0, now, hor⟩) := ⟨F0.out, F1.out, F4.out, F2.out, F3.out, FM.out⟩
    clear F0 F1 F2 F3 F4 FM
    go_wp2_with fail
    refine (clonebats_any l hl _ w5 (HB.out.kept FB.out)).mono ?_
    rintro e w6 ⟨v6, L0, rfl, hsl, hLm, hLr, hb6⟩
    obtain ⟨av, capv, hv6, hcle, hav⟩ := hsl.form
    subst hv6
    have HG : Hid (∃ g off, w5.heap.size ≤ g ∧ (0 < l.length → av = some ⟨g, off, none⟩)) := by
      rcases hav with rfl | ⟨g, off, rfl⟩
      · refine ⟨w5.heap.size, 0, Nat.le_refl _, fun h0 => ?_⟩
        rcases hsl.2 with ⟨_, h1⟩ | ⟨g, off, cap', he, _⟩
        · omega
        · cases he
      · exact ⟨g, off, (hsl.lt g rfl).1, fun _ => rfl⟩
    obtain ⟨g, off, hg5, hgv⟩ := HG.out
    have HGV := Lib.hid hgv
    have TNE : Hid (∀ j, (j = po ∨ j = ph ∨ j = pl ∨ j = pn ∨ j = pz ∨ j = m) → j ≠ g) := fun j hj => by have := T5.out.lt j hj; omega
    have HG5 : Hid (w.heap.size ≤ g) := Nat.le_trans FB.out.size hg5
    have T6 := Lib.hid (T5.out.below hb6)
    have L6 : Hid (ThL w6 w5.heap.size g (.slice av l.length capv) (thinB ok high late now hor) l 0 L0) := ⟨hsl, by rw [List.take_zero, List.drop_zero, hLm]; rfl, fun q hq => ((hLr q hq).toB hg5).keep (S := fun _ => False) (Keeps.below _ hb6) (fun _ _ e => e.elim)⟩
    have B6 := Lib.hid (bt FB.out hb6)
    clear hsl hLm hLr hb6 hav HG hgv T5 FB hg5
    generalize w5.heap.size = B at L6
    go_wp2
    go_loopw [28] (fun i wr => ∃ (k : Nat) (L : List BV), i = .int .i64 k ∧ k ≤ l.length ∧ ThL wr B g (.slice av l.length capv) (thinB ok high late now hor) l k L ∧ ThW wr po ph pl pn pz m ⟨ok, high, late, 0, now, hor⟩ ∧ Below w.heap.size w wr) (fun i _ => l.length - (intOf i).toNat)
    case atStart => exact ⟨0, L0, rfl, by omega, L6.out, T6.out, B6.out⟩
    case round =>
      obtain ⟨k, L, rfl, hk, hL, hT, hbel⟩ := hrel
      have LK := Lib.hid hL
      have TK := Lib.hid hT
      have BK := Lib.hid hbel
      clear hL hT hbel L6 T6 B6
      by_cases hlt : k < l.length
      · obtain ⟨b, hb⟩ : ∃ b, l[k]? = some b := ⟨l[k], by simp [hlt]⟩
        have HBK := Lib.hid hb
        obtain ⟨rv, hq, hrv⟩ := LK.out.get hb
        have hav := HGV.out (by omega)
        subst hav
        have hrl := HRL.out b (List.mem_of_getElem? hb)
        have HKB := Lib.hid (HKL.out b (List.mem_of_getElem? hb))
        obtain ⟨ar, capr, rfl⟩ := hrv.1.form
        obtain ⟨q0, q1, q2, q3, q4, q5⟩ := bvCells_get L k _ hq
        dsimp only at q0 q1 q2 q3 q4 q5
        obtain ⟨hgw, hrng⟩ : g < wr.heap.size ∧ wr.rangeAt g off (bvCells L) := by
          rcases LK.out.sl.2 with ⟨he, _⟩ | ⟨g', off', cap', he, _, hg, _, _, hr, _⟩
          · cases he
          · cases he; exact ⟨hg, hr⟩
        have p0 : wr.cell? ⟨g, off + k * 6, none⟩ = some (.int .i64 b.base) := hrng _ _ q0
        have p1 : wr.cell? ⟨g, off + k * 6 + 1, none⟩ = some (.int .i64 b.count) := by rw [Nat.add_assoc]; exact hrng _ _ q1
        have p2 : wr.cell? ⟨g, off + k * 6 + 2, none⟩ = some (.int .i64 b.prod) := by rw [Nat.add_assoc]; exact hrng _ _ q2
        have p3 : wr.cell? ⟨g, off + k * 6 + 3, none⟩ = some (.int .i64 b.seq) := by rw [Nat.add_assoc]; exact hrng _ _ q3
        have p4 : wr.cell? ⟨g, off + k * 6 + 4, none⟩ = some (.int .i64 b.time) := by rw [Nat.add_assoc]; exact hrng _ _ q4
        have p5 : wr.cell? ⟨g, off + k * 6 + 5, none⟩ = some (.slice ar b.recs.length capr) := by rw [Nat.add_assoc]; exact hrng _ _ q5
        have RV := Lib.hid hrv
        have C7 : Hid (Cl (wr.alloc (.cells #[.int .i64 b.base, .int .i64 b.count, .int .i64 b.prod, .int .i64 b.seq, .int .i64 b.time, .slice ar b.recs.length capr] 42)) wr.heap.size [.int .i64 b.base, .int .i64 b.count, .int .i64 b.prod, .int .i64 b.seq, .int .i64 b.time, .slice ar b.recs.length capr] 42) := Cl.new wr _ _
        have hba : Below wr.heap.size wr (wr.alloc (.cells #[.int .i64 b.base, .int .i64 b.count, .int .i64 b.prod, .int .i64 b.seq, .int .i64 b.time, .slice ar b.recs.length capr] 42)) := (Below.refl wr.heap.size wr).alloc (Nat.le_refl _) _
        have L7 := Lib.hid (LK.out.keep (Keeps.below (fun _ => False) hba) (fun _ _ => id))
        have T7 := Lib.hid (TK.out.below hba)
        have B7 := Lib.hid (bt BK.out hba)
        have R7 : Hid (Recs (wr.alloc (.cells #[.int .i64 b.base, .int .i64 b.count, .int .i64 b.prod, .int .i64 b.seq, .int .i64 b.time, .slice ar b.recs.length capr] 42)) (.slice ar b.recs.length capr) b.recs) := hrv.1.kept hba
        have hgw7 : g < (wr.alloc (.cells #[.int .i64 b.base, .int .i64 b.count, .int .i64 b.prod, .int .i64 b.seq, .int .i64 b.time, .slice ar b.recs.length capr] 42)).heap.size := Nat.lt_of_lt_of_le hgw hba.size
        clear hrng q0 q1 q2 q3 q4 q5 hq hrv RV hb hba LK TK BK
        go_upto_region 7 with (fail)
        generalize wr.alloc (.cells #[.int .i64 b.base, .int .i64 b.count, .int .i64 b.prod, .int .i64 b.seq, .int .i64 b.time, .slice ar b.recs.length capr] 42) = w7 at *
        clear p0 p1 p2 p3 p4 p5 hgw
        generalize wr.heap.size = pb at C7 ⊢
        have c4 := C7.out.cell 4
        have c5 := C7.out.cell 5
        simp only [List.getElem?_cons_zero, List.getElem?_cons_succ] at c4 c5
        go_wp2_with fail
        refine (clonerecs_any b.recs (by omega) _ w7 R7.out).mono ?_
        rintro e w8 ⟨v8, rfl, hs8, hb8⟩
        have T8 := T7.out.below hb8
        have hap : ∀ j, v8.ownBlock = some j → ¬ (j = po ∨ j = ph ∨ j = pl ∨ j = pb ∨ j = pn ∨ j = pz ∨ j = m) := by
          intro j hj hc
          have h1 := (hs8.lt j hj).1
          rcases hc with h | h | h | h | h | h | h
          · have := T7.out.lt j (.inl h); omega
          · have := T7.out.lt j (.inr (.inl h)); omega
          · have := T7.out.lt j (.inr (.inr (.inl h))); omega
          · have := C7.out.lt; omega
          · have := T7.out.lt j (.inr (.inr (.inr (.inl h)))); omega
          · have := T7.out.lt j (.inr (.inr (.inr (.inr (.inl h))))); omega
          · have := T7.out.lt j (.inr (.inr (.inr (.inr (.inr h))))); omega
        have U8 : UsW w8 po ph pl pb pn pz m ⟨ok, high, late, b.time, now, hor⟩ := ⟨T8.co, T8.ch, T8.cl, (hb8.cell (p := ⟨pb, 4, none⟩) C7.out.lt).trans c4, Nat.lt_of_lt_of_le C7.out.lt hb8.size, T8.cn, T8.cz, T8.M, HTT.out⟩
        have HD := Lib.hid (deluse_any ⟨ok, high, late, b.time, now, hor⟩ b.recs HKB.out (by unfold maxLen; omega) po ph pl pb pn pz m w7.heap.size v8 w8 hs8 U8 hap)
        have hown8 : Hid (∀ j, v8.ownBlock = some j → w7.heap.size ≤ j) := fun j hj => (hs8.lt j hj).1
        have HB8 := Lib.hid hb8
        unfold usF at HD
        clear hs8 hb8 T8 hap U8 c4 c5
        go_wp2_with fail
        refine HD.out.mono ?_
        rintro e w9 ⟨v9, rfl, hown9, hs9, hk9⟩
        obtain ⟨a9, cap9, hv9, _, _⟩ := hs9.form
        subst hv9
        have K9 : Keeps (fun j => v8.ownBlock = some j) w7 w9 := (Keeps.below _ HB8.out).trans hk9
        have hno : ∀ j, j < w7.heap.size → ¬ (v8.ownBlock = some j) := fun j hj e => by have := hown8.out j e; omega
        have L9 := L7.out.keep K9 hno
        have T9 := Lib.hid (T7.out.keep K9 (fun j hj _ => hno j hj))
        have R9 : RecsB w9 g (.slice a9 (b.recs.filter (fun x => !useless ⟨ok, high, late, b.time, now, hor⟩ x)).length cap9) (thinB ok high late now hor b).recs := ⟨hs9.recs, fun _ e => hno g hgw7 (hown9 ▸ e)⟩
        obtain ⟨u0, hc0, hf0, hst⟩ := L9.step HBK.out hlt _ rfl R9
        have B9 := Lib.hid ((bt B7.out (K9.toBelow (Nat.le_refl _) hno)).setCell (p := ⟨g, off + k * 6 + 5, none⟩) HG5.out (.slice a9 (b.recs.filter (fun x => !useless ⟨ok, high, late, b.time, now, hor⟩ x)).length cap9))
        have L10 := Lib.hid hst
        have T10 := Lib.hid (T9.out.keep (S := fun j => j = g) (Keeps.setCell _ w9 ⟨g, off + k * 6 + 5, none⟩ (.slice a9 (b.recs.filter (fun x => !useless ⟨ok, high, late, b.time, now, hor⟩ x)).length cap9) rfl) (fun j _ hj e => TNE.out j hj e))
        clear hs9 hk9 K9 hno L9 T9 R9 hst hown9 hown8
        go_wp2
        go_roundw
        case rel => exact ⟨k + 1, _, by go_num, by omega, L10.out, T10.out, B9.out⟩
        case measure => simp [intOf]; omega
      · obtain rfl : k = l.length := by omega
        go_wp2
        go_ret
        refine ⟨_, rfl, ?_, BK.out⟩
        rw [HTH.out]
        have h1 := LK.out.map
        rw [List.drop_length, List.append_nil, List.take_of_length_le (by simp)] at h1
        exact LK.out.sl.bats h1 (by simp) LK.out.recs

end Go.Proofs.Ytccndbifnbmddaa
