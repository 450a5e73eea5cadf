/-
  Yp / Bdr / Bds / Brr / Bna: texts of one proof, one behind the other.
  Conditions: none of its own.
-/
import Derived.Test.YtjfpbeccpcbpcaaGreatDoorZak
set_option linter.unusedVariables false
set_option linter.unusedSimpArgs false
set_option maxHeartbeats 3200000
set_option maxRecDepth 20000
namespace Go.Proofs.YtjfpbeccpcbpcaaGreatDoor.Wi
open Bd (St bInt bText sInt sText sSign sMore sDone inR)
theorem sMany_bad {α : Type} (f : St → α × St) (n : Nat) {q : St} (h : q.2 = true) : sMany f n q = ([], q) := by
 cases n with
 | zero => rfl
 | succ n => rw [sMany, if_neg (by simp [sMore, h])]
theorem sign_bad {c : UInt8} {q : St} (h : q.2 = true) : (sSign c q).2 = true := by simp [sSign, h]
theorem int_bad {q : St} (h : q.2 = true) : (sInt q).2.2 = true := by simp [sInt, h]
theorem text_bad {m : Int} {q : St} (h : q.2 = true) : (sText m q).2.2 = true := by simp [sText, h]
theorem many_bad {α : Type} {f : St → α × St} {n : Nat} {q : St} (h : q.2 = true) : (sMany f n q).2.2 = true := by rw [sMany_bad f n h]; exact h
theorem done_bad {q : St} (h : q.2 = true) : sDone q ≠ 0 := by simp [sDone, h]
theorem sign_more {q : St} (h : sMore q = true) : (sSign 101 q).2 = true := by
 obtain ⟨h1, h2, h3⟩ := more_good h
 obtain ⟨s, b⟩ := q
 simp only at h1 h2 h3
 subst h1
 rw [Bd.sSign_no h3]
theorem sMany_cap {α : Type} {f : St → α × St} (hf : Shr f) : ∀ (n N : Nat) (q : St), (q.2 = true ∨ q.1.length < N) →
  ((sMany f N q).1.length ≤ n ∧ sMany f n q = sMany f N q) ∨ (n < (sMany f N q).1.length ∧ sMore (sMany f n q).2 = true) := by
 intro n
 induction n with
 | zero =>
  intro N q hN
  cases hm : sMore q with
  | false =>
   left
   cases N with
   | zero => exact ⟨Nat.le_refl _, rfl⟩
   | succ N => rw [sMany, sMany, if_neg (by rw [hm]; simp)]; exact ⟨Nat.le_refl _, rfl⟩
  | true =>
   right
   have hg := (more_good hm).1
   rw [hg] at hN
   have hl := hN.resolve_left (by simp)
   obtain ⟨M, rfl⟩ : ∃ M, N = M + 1 := ⟨N - 1, by omega⟩
   have e2 : sMany f (M + 1) q = ((f q).1 :: (sMany f M (f q).2).1, (sMany f M (f q).2).2) := by rw [sMany, if_pos hm]
   rw [e2]
   exact ⟨by simp, hm⟩
 | succ n ih =>
  intro N q hN
  cases hm : sMore q with
  | false =>
   left
   have e : sMany f (n + 1) q = ([], q) := by rw [sMany, if_neg (by rw [hm]; simp)]
   have e2 : sMany f N q = ([], q) := by
    cases N with
    | zero => rfl
    | succ N => rw [sMany, if_neg (by rw [hm]; simp)]
   rw [e, e2]
   exact ⟨Nat.zero_le _, rfl⟩
  | true =>
   have hg := (more_good hm).1
   rw [hg] at hN
   have hl := hN.resolve_left (by simp)
   obtain ⟨M, rfl⟩ : ∃ M, N = M + 1 := ⟨N - 1, by omega⟩
   have hM : (f q).2.2 = true ∨ (f q).2.1.length < M := by
    rcases hf q hm with h | h
    ·exact .inl h
    ·exact .inr (by omega)
   have e : sMany f (n + 1) q = ((f q).1 :: (sMany f n (f q).2).1, (sMany f n (f q).2).2) := by rw [sMany, if_pos hm]
   have e2 : sMany f (M + 1) q = ((f q).1 :: (sMany f M (f q).2).1, (sMany f M (f q).2).2) := by rw [sMany, if_pos hm]
   rw [e, e2]
   rcases ih M (f q).2 hM with ⟨h1, h2⟩ | ⟨h1, h2⟩
   ·left
    refine ⟨by simpa using h1, ?_⟩
    rw [h2]
   ·right
    exact ⟨by simpa using h1, h2⟩
theorem sAll_cap {α : Type} {f : St → α × St} (hf : Shr f) (n : Nat) (q : St) :
  ((sAll f q).1.length ≤ n ∧ sMany f n q = sAll f q) ∨ (n < (sAll f q).1.length ∧ sMore (sMany f n q).2 = true) := sMany_cap hf n _ q (.inr (Nat.lt_succ_self _))
theorem sMany_map {α β : Type} {f : St → α × St} {g : St → β × St} {pi : α → β} {ok : α → Bool} (h : ∀ q, (ok (f q).1 = true ∧ g q = (pi (f q).1, (f q).2)) ∨ (ok (f q).1 = false ∧ (g q).2.2 = true)) : ∀ (n : Nat) (q : St),
  ((sMany f n q).1.all ok = true ∧ sMany g n q = ((sMany f n q).1.map pi, (sMany f n q).2)) ∨ ((sMany f n q).1.all ok = false ∧ (sMany g n q).2.2 = true) := by
 intro n
 induction n with
 | zero => intro q; left; exact ⟨rfl, rfl⟩
 | succ n ih =>
  intro q
  cases hm : sMore q with
  | false =>
   left
   rw [sMany, sMany, if_neg (by rw [hm]; simp), if_neg (by rw [hm]; simp)]
   exact ⟨rfl, rfl⟩
  | true =>
   have e : sMany f (n + 1) q = ((f q).1 :: (sMany f n (f q).2).1, (sMany f n (f q).2).2) := by rw [sMany, if_pos hm]
   have e2 : sMany g (n + 1) q = ((g q).1 :: (sMany g n (g q).2).1, (sMany g n (g q).2).2) := by rw [sMany, if_pos hm]
   rw [e, e2]
   rcases h q with ⟨h1, h2⟩ | ⟨h1, h2⟩
   ·rw [h2]
    dsimp only
    rcases ih (f q).2 with ⟨i1, i2⟩ | ⟨i1, i2⟩
    ·left
     refine ⟨by rw [List.all_cons, h1, i1]; rfl, ?_⟩
     rw [i2]
     rfl
    ·right
     exact ⟨by rw [List.all_cons, h1, i1]; rfl, i2⟩
   ·right
    refine ⟨by rw [List.all_cons, h1]; rfl, ?_⟩
    dsimp only
    exact many_bad h2
/-! ### The document's reading -/
def tInts (q : St) : List Int × St := let r := sMany sInt 20 (sSign 108 q); (r.1, sSign 101 r.2)
def tRec (q : St) : Cr.Rec × St :=
 let o := sInt q
 let k := sText 16 o.2
 let v := sText 64 k.2
 let g := sInt v.2
 (⟨o.1, k.1, v.1, g.1 == 1⟩, (g.2.1, g.2.2 || !decide (0 ≤ g.1 ∧ g.1 ≤ 1)))
def tRecs (q : St) : List Cr.Rec × St := let r := sMany tRec 17 (sSign 108 q); (r.1, sSign 101 r.2)
def tReq (q : St) : Req × St :=
 let a := sInt q
 let b := sInt a.2
 let c := sInt b.2
 let d := sInt c.2
 let e := sInt d.2
 let f := sInt e.2
 let g := sInt f.2
 let h := sInt g.2
 let i := sText 8 h.2
 let j := sText 8 i.2
 let r := tRecs j.2
 (⟨a.1, b.1, c.1, d.1, e.1, f.1, g.1, h.1, i.1, j.1, r.1⟩, r.2)
def tResp (q : St) : Resp × St :=
 let a := sInt q
 let b := sInt a.2
 let c := sInt b.2
 let d := sInt c.2
 let e := sInt d.2
 let f := sInt e.2
 let p := tInts f.2
 let r := tRecs p.2
 (⟨a.1, b.1, c.1, d.1, e.1, f.1, p.1, r.1⟩, r.2)
def tPlace (q : St) : ((Int × List Int × Int × List (Int × Int)) × Bool) × St :=
 let a := sInt q
 let c := tInts a.2
 let b := sInt c.2
 let l := tInts b.2
 (((a.1, c.1, b.1, if evenB l.1 then pairs l.1 else []), evenB l.1), l.2)
def tSeen (q : St) : Seen × St :=
 let a := sInt (sSign 108 q)
 let r := sMany sSlot 6 a.2
 ((a.1, r.1), sSign 101 r.2)
def tTable (s : List UInt8) : Option (List Seen) :=
 let r := sMany tSeen 65 (sSign 108 (s, false))
 if sDone (sSign 101 r.2) = 0 && tableB r.1 then some r.1 else none
def tTail (m : Msg) (q : St) : (Msg × Bool) × St :=
 if m.kind = 1 ∨ m.kind = 7 then let r := tReq q; (({ m with req := r.1 }, true), r.2)
 else if m.kind = 2 then let r := tResp q; (({ m with resp := r.1 }, true), r.2)
 else if m.kind = 3 then let r := sInt q; (({ m with life := r.1 }, true), r.2)
 else if m.kind = 4 then let r := tPlace q; (({ m with pep := r.1.1.1, chain := r.1.1.2.1, learner := r.1.1.2.2.1, lives := r.1.1.2.2.2 }, r.1.2), r.2)
 else if m.kind = 5 then let r := sText 16384 q; (({ m with batch := (Cr.dec r.1).getD zBatch }, (Cr.dec r.1).isSome), r.2)
 else if m.kind = 6 then let r := sInt q; let h := sInt r.2; (({ m with off := r.1, high := h.1 }, true), h.2)
 else if m.kind = 8 then let o := sInt q; let r := sText 16384 o.2; (({ m with off := o.1, table := (tTable r.1).getD [] }, (tTable r.1).isSome), r.2)
 else if m.kind = 9 then let r := sInt q; (({ m with off := r.1 }, true), r.2)
 else ((m, true), q)
/-! ### It reads what is read -/
theorem tInts_or (q : St) : ((sInts q).1.length ≤ 20 ∧ tInts q = sInts q) ∨ (20 < (sInts q).1.length ∧ (tInts q).2.2 = true) := by
 rcases sAll_cap sInt_shr 20 (sSign 108 q) with ⟨h1, h2⟩ | ⟨h1, h2⟩
 ·left
  refine ⟨h1, ?_⟩
  unfold tInts sInts
  dsimp only
  rw [h2]
 ·right
  exact ⟨h1, sign_more h2⟩
theorem flag_is (g : Int) : (g == Cr.flag (g == 1)) = decide (0 ≤ g ∧ g ≤ 1) := by
 by_cases h1 : g = 1
 ·subst h1; rfl
 ·by_cases h0 : g = 0
  ·subst h0; rfl
  ·have e1 : (g == 1) = false := by simpa using h1
   rw [e1, show Cr.flag false = 0 from rfl, show (g == 0) = false from by simpa using h0, decide_eq_false (by omega)]
theorem tRec_or (q : St) : ((sRec4 q).1.2 = true ∧ tRec q = ((sRec4 q).1.1, (sRec4 q).2)) ∨ ((sRec4 q).1.2 = false ∧ (tRec q).2.2 = true) := by
 unfold sRec4 tRec
 dsimp only
 rw [flag_is]
 generalize sInt (sText 64 (sText 16 (sInt q).2).2).2 = g
 obtain ⟨g1, g2, g3⟩ := g
 dsimp only
 cases hd : decide (0 ≤ g1 ∧ g1 ≤ 1) with
 | true => left; exact ⟨rfl, by simp⟩
 | false => right; exact ⟨rfl, by simp⟩
theorem tRecs_or (q : St) : ((sRecs q).1.2 = true ∧ (sRecs q).1.1.length ≤ 17 ∧ tRecs q = ((sRecs q).1.1, (sRecs q).2)) ∨ (((sRecs q).1.2 = false ∨ 17 < (sRecs q).1.1.length) ∧ (tRecs q).2.2 = true) := by
 have hm := sMany_map (f := sRec4) (g := tRec) (pi := fun x => x.1) (ok := fun x => x.2) tRec_or 17 (sSign 108 q)
 have hl : (sRecs q).1.1.length = (sAll sRec4 (sSign 108 q)).1.length := by simp [sRecs]
 have hk : (sRecs q).1.2 = (sAll sRec4 (sSign 108 q)).1.all (fun x => x.2) := rfl
 rw [hl, hk]
 rcases sAll_cap sRec4_shr 17 (sSign 108 q) with ⟨h1, h2⟩ | ⟨h1, h2⟩
 ·rw [h2] at hm
  rcases hm with ⟨i1, i2⟩ | ⟨i1, i2⟩
  ·left
   refine ⟨i1, h1, ?_⟩
   unfold tRecs sRecs
   dsimp only
   rw [i2]
  ·right
   exact ⟨.inl i1, sign_bad i2⟩
 ·right
  refine ⟨.inr h1, ?_⟩
  rcases hm with ⟨i1, i2⟩ | ⟨i1, i2⟩
  ·unfold tRecs
   dsimp only
   rw [i2]
   exact sign_more h2
  ·exact sign_bad i2
theorem tReq_or (q : St) : ((sReq q).1.2 = true ∧ tReq q = ((sReq q).1.1, (sReq q).2)) ∨ (((sReq q).1.2 = false ∨ 17 < (sReq q).1.1.recs.length) ∧ (tReq q).2.2 = true) := by
 unfold sReq tReq
 dsimp only
 generalize (sText 8 (sText 8 (sInt (sInt (sInt (sInt (sInt (sInt (sInt (sInt q).2).2).2).2).2).2).2).2).2).2 = z
 rcases tRecs_or z with ⟨h1, h2, h3⟩ | ⟨h1, h2⟩
 ·left
  rw [h3]
  exact ⟨h1, rfl⟩
 ·right
  exact ⟨h1, h2⟩
theorem tInts_bad {q : St} (h : q.2 = true) : (tInts q).2.2 = true := sign_bad (many_bad (sign_bad h))
theorem tRecs_bad {q : St} (h : q.2 = true) : (tRecs q).2.2 = true := sign_bad (many_bad (sign_bad h))
theorem tResp_or (q : St) : ((sResp q).1.2 = true ∧ tResp q = ((sResp q).1.1, (sResp q).2)) ∨ (((sResp q).1.2 = false ∨ 17 < (sResp q).1.1.recs.length ∨ 20 < (sResp q).1.1.parts.length) ∧ (tResp q).2.2 = true) := by
 unfold sResp tResp
 dsimp only
 generalize (sInt (sInt (sInt (sInt (sInt (sInt q).2).2).2).2).2).2 = z
 rcases tInts_or z with ⟨h1, h2⟩ | ⟨h1, h2⟩
 ·rw [h2]
  rcases tRecs_or (sInts z).2 with ⟨i1, i2, i3⟩ | ⟨i1, i2⟩
  ·left
   rw [i3]
   exact ⟨i1, rfl⟩
  ·right
   refine ⟨?_, i2⟩
   rcases i1 with i1 | i1
   ·exact .inl i1
   ·exact .inr (.inl i1)
 ·right
  exact ⟨.inr (.inr h1), tRecs_bad h2⟩
theorem pairs_len : ∀ (l : List Int), evenB l = true → 2 * (pairs l).length = l.length
 | [], _ => rfl
 | [x], h => by simp [evenB] at h
 | x :: y :: r, h => by
  have := pairs_len r (by simp [evenB] at h ⊢; omega)
  simp only [pairs, List.length_cons] at this ⊢
  omega
theorem tPlace_or (q : St) : tPlace q = sPlace q ∨ (((sPlace q).1.2 = false ∨ 20 < (sPlace q).1.1.2.1.length ∨ 10 < (sPlace q).1.1.2.2.2.length) ∧ (tPlace q).2.2 = true) := by
 unfold sPlace tPlace
 dsimp only
 generalize (sInt q).2 = z
 rcases tInts_or z with ⟨h1, h2⟩ | ⟨h1, h2⟩
 ·rw [h2]
  generalize (sInt (sInts z).2).2 = y
  rcases tInts_or y with ⟨i1, i2⟩ | ⟨i1, i2⟩
  ·left
   rw [i2]
  ·right
   refine ⟨?_, i2⟩
   cases he : evenB (sInts y).1 with
   | false => exact .inl rfl
   | true =>
    right; right
    rw [if_pos rfl]
    have := pairs_len _ he
    omega
 ·right
  exact ⟨.inr (.inl h1), tInts_bad (int_bad h2)⟩
theorem tSeen_or (q : St) : (decide ((sSeen q).1.2.length ≤ 6) = true ∧ tSeen q = (sSeen q)) ∨ (decide ((sSeen q).1.2.length ≤ 6) = false ∧ (tSeen q).2.2 = true) := by
 unfold sSeen tSeen
 dsimp only
 rcases sAll_cap sSlot_shr 6 (sInt (sSign 108 q)).2 with ⟨h1, h2⟩ | ⟨h1, h2⟩
 ·left
  rw [h2]
  exact ⟨decide_eq_true h1, rfl⟩
 ·right
  exact ⟨decide_eq_false (by omega), sign_more h2⟩
theorem tTable_eq (s : List UInt8) : tTable s = decTable s := by
 have hm := sMany_map (f := sSeen) (g := tSeen) (pi := fun x => x) (ok := fun x => decide (x.2.length ≤ 6)) tSeen_or 65 (sSign 108 (s, false))
 have hno : ∀ {q : St}, (sSign 101 q).2 = true → ∀ b : Bool, (decide (sDone (sSign 101 q) = 0) && b) = false := fun h b => by rw [decide_eq_false (done_bad h)]; rfl
 have hsix : ∀ t : List Seen, t.all (fun x => decide (x.2.length ≤ 6)) = false → tableB t = false := fun t ht => by
  cases hb : tableB t with
  | false => rfl
  | true =>
   have h1 := (tableB_all hb).2
   have h2 : t.all (fun x => decide (x.2.length ≤ 6)) = true := List.all_eq_true.2 fun x hx => decide_eq_true (by have := (h1 x hx).2.1; omega)
   rw [h2] at ht
   cases ht
 have hmany : ∀ t : List Seen, 65 < t.length → tableB t = false := fun t ht => by
  cases hb : tableB t with
  | false => rfl
  | true => have := (tableB_all hb).1; omega
 unfold tTable decTable
 dsimp only
 rcases sAll_cap sSeen_shr 65 (sSign 108 (s, false)) with ⟨h1, h2⟩ | ⟨h1, h2⟩
 ·rw [h2] at hm
  rcases hm with ⟨i1, i2⟩ | ⟨i1, i2⟩
  ·rw [i2, List.map_id']
  ·rw [if_neg (by rw [hno (sign_bad i2)]; simp), if_neg (by rw [hsix _ i1]; simp)]
 ·rw [if_neg (c := (decide (sDone (sSign 101 (sAll sSeen (sSign 108 (s, false))).2) = 0) && tableB (sAll sSeen (sSign 108 (s, false))).1) = true) (by rw [hmany _ h1]; simp)]
  rcases hm with ⟨i1, i2⟩ | ⟨i1, i2⟩
  ·rw [i2]
   dsimp only
   rw [if_neg (by rw [hno (sign_more h2)]; simp)]
  ·rw [if_neg (by rw [hno (sign_bad i2)]; simp)]
theorem good_not {m : Msg} (h : lastB m = false) : good m = false := by rw [good, h, Bool.and_false]
theorem req_not {q : Req} (h : 17 < q.recs.length) : reqB q = false := by
 have h1 : Cr.fits q.recs = false := by
  cases hf : Cr.fits q.recs with
  | false => rfl
  | true => have := (fits_all hf).1; omega
 have h2 : decide (q.recs.length = 0) = false := decide_eq_false (by omega)
 unfold reqB
 rw [h1, h2]
 simp
theorem resp_not {a : Resp} (h : 17 < a.recs.length ∨ 20 < a.parts.length) : respB a = false := by
 unfold respB
 rcases h with h | h
 ·rw [decide_eq_false (show ¬ a.recs.length ≤ 16 by omega)]; simp
 ·rw [decide_eq_false (show ¬ a.parts.length ≤ 4 by omega)]; simp
theorem place_not {m : Msg} (h : 20 < m.chain.length ∨ 10 < m.lives.length) : placeB m = false := by
 unfold placeB
 rcases h with h | h
 ·rw [decide_eq_false (show ¬ m.chain.length ≤ 5 by omega)]; simp
 ·rw [decide_eq_false (show ¬ m.lives.length ≤ 5 by omega)]; simp
theorem tTail_or (m : Msg) (q : St) : tTail m q = sTail m q ∨ (((sTail m q).1.2 = false ∨ good (sTail m q).1.1 = false) ∧ (tTail m q).2.2 = true) := by
 unfold tTail sTail
 by_cases k1 : m.kind = 1 ∨ m.kind = 7
 ·simp only [if_pos k1]
  rcases tReq_or q with ⟨h1, h2⟩ | ⟨h1, h2⟩
  ·left
   rw [h2, h1]
  ·right
   refine ⟨?_, h2⟩
   rcases h1 with h1 | h1
   ·exact .inl h1
   ·exact .inr (good_not (by unfold lastB; rw [if_pos k1]; exact req_not h1))
 simp only [if_neg k1]
 by_cases k2 : m.kind = 2
 ·simp only [if_pos k2]
  rcases tResp_or q with ⟨h1, h2⟩ | ⟨h1, h2⟩
  ·left
   rw [h2, h1]
  ·right
   refine ⟨?_, h2⟩
   rcases h1 with h1 | h1
   ·exact .inl h1
   ·exact .inr (good_not (by unfold lastB; rw [if_neg k1, if_pos k2]; exact resp_not h1))
 simp only [if_neg k2]
 by_cases k3 : m.kind = 3
 ·left; simp only [if_pos k3]
 simp only [if_neg k3]
 by_cases k4 : m.kind = 4
 ·simp only [if_pos k4]
  rcases tPlace_or q with h1 | ⟨h1, h2⟩
  ·left
   rw [h1]
  ·right
   refine ⟨?_, h2⟩
   rcases h1 with h1 | h1
   ·exact .inl h1
   ·exact .inr (good_not (by unfold lastB; rw [if_neg k1, if_neg k2, if_pos k4]; exact place_not h1))
 left
 simp only [if_neg k4, tTable_eq]
end Go.Proofs.YtjfpbeccpcbpcaaGreatDoor.Wi
namespace Go.Proofs.YtjfpbeccpcbpcaaGreatDoor.Bd
open Go.Lib
def digs (l : List UInt8) : List UInt8 := l.takeWhile isDig
def numP (l : List UInt8) : Nat × Nat :=
 if digs l ≠ [] ∧ (1 < (digs l).length → (digs l).head? ≠ some 48) ∧ val 0 (digs l) < 18446744073709551616 then ((digs l).length, val 0 (digs l)) else (0, 0)
theorem digs_all (l : List UInt8) : ∀ c ∈ digs l, isDig c = true := by
 induction l with
 | nil => intro c hc; cases hc
 | cons x r ih =>
  intro c hc
  unfold digs at hc ih
  rw [List.takeWhile_cons] at hc
  split at hc
  ·rcases List.mem_cons.1 hc with rfl | hc
   ·assumption
   ·exact ih c hc
  ·cases hc
theorem digs_append {a r : List UInt8} (ha : ∀ c ∈ a, isDig c = true) (hr : ∀ c, r.head? = some c → isDig c = false) : digs (a ++ r) = a := by
 induction a with
 | nil =>
  unfold digs
  cases r with
  | nil => rfl
  | cons x r =>
   have := hr x rfl
   simp [List.takeWhile_cons, this]
 | cons x a ih =>
  unfold digs at ih ⊢
  rw [List.cons_append, List.takeWhile_cons, if_pos (ha x (by simp)), ih (fun c hc => ha c (by simp [hc]))]
theorem digs_split (l : List UInt8) : l = digs l ++ l.drop (digs l).length := by
 induction l with
 | nil => rfl
 | cons x r ih =>
  unfold digs at ih ⊢
  rw [List.takeWhile_cons]
  split
  ·simpa using ih
  ·rfl
theorem digs_next (l : List UInt8) : ∀ c, (l.drop (digs l).length).head? = some c → isDig c = false := by
 induction l with
 | nil => intro c h; cases h
 | cons x r ih =>
  unfold digs at ih ⊢
  rw [List.takeWhile_cons]
  split
  ·simpa using ih
  ·intro c h
   simp at h
   subst h
   simp_all
theorem dec_head (u : Nat) : 1 < (decDigits u).length → (decDigits u).head? ≠ some 48 := by
 induction u using Nat.strongRecOn with
 | _ u ih =>
  intro hl
  by_cases h : u < 10
  ·rw [dec_small h] at hl; simp at hl
  ·rw [dec_big h]
   by_cases h2 : u / 10 < 10
   ·rw [dec_small h2]
    simp only [List.cons_append, List.head?_cons, ne_eq, Option.some.injEq]
    intro e
    have := congrArg UInt8.toNat e
    rw [dg_toNat h2] at this
    have h48 : (48 : UInt8).toNat = 48 := rfl
    omega
   ·have hl2 : 1 < (decDigits (u / 10)).length := by
     rw [decDigits_length, nDigits_big h2]
     have := nDigits_pos (u / 10 / 10)
     omega
    have := ih (u / 10) (by omega) hl2
    cases hd : decDigits (u / 10) with
    | nil => exact absurd hd (dec_ne _)
    | cons x r => rw [hd] at this; simpa using this
theorem numP_dec {u : Nat} {r : List UInt8} (hu : u < 18446744073709551616) (hr : ∀ c, r.head? = some c → isDig c = false) : numP (decDigits u ++ r) = ((decDigits u).length, u) := by
 have hd := digs_append (dec_dig u) hr
 unfold numP
 rw [hd, dec_val, if_pos ⟨dec_ne u, dec_head u, hu⟩]
theorem numP_some {l : List UInt8} (h : 0 < (numP l).1) : l = decDigits (numP l).2 ++ l.drop (numP l).1 ∧ (decDigits (numP l).2).length = (numP l).1 ∧ (numP l).2 < 18446744073709551616 ∧
  (∀ c, (l.drop (numP l).1).head? = some c → isDig c = false) := by
 unfold numP at h ⊢
 by_cases hc : digs l ≠ [] ∧ (1 < (digs l).length → (digs l).head? ≠ some 48) ∧ val 0 (digs l) < 18446744073709551616
 ·rw [if_pos hc]
  obtain ⟨h1, h2, h3⟩ := hc
  have hcan := dec_canon _ (digs l) rfl h1 (digs_all l) h2
  simp only
  rw [hcan]
  exact ⟨digs_split l, rfl, h3, digs_next l⟩
 ·rw [if_neg hc] at h
  exact absurd h (by simp)
end Go.Proofs.YtjfpbeccpcbpcaaGreatDoor.Bd
namespace Go.Proofs.YtjfpbeccpcbpcaaGreatDoor.Bd
open Go.Lib
theorem digs_app {a : List UInt8} (r : List UInt8) (ha : ∀ c ∈ a, isDig c = true) : digs (a ++ r) = a ++ digs r := by
 induction a with
 | nil => rfl
 | cons x a ih =>
  unfold digs at ih ⊢
  rw [List.cons_append, List.takeWhile_cons, if_pos (ha x (by simp)), ih (fun c hc => ha c (by simp [hc]))]
  rfl
structure Pre (l : List UInt8) (k : Nat) (u : Int) : Prop where
 dig : ∀ c ∈ l.take k, isDig c = true
 le : k ≤ l.length
 eq : u = (val 0 (l.take k) : Nat)
theorem Pre.zero (l : List UInt8) : Pre l 0 0 := ⟨by simp, Nat.zero_le _, by simp [val]⟩
theorem Pre.digs {l : List UInt8} {k : Nat} {u : Int} (h : Pre l k u) : digs l = l.take k ++ Bd.digs (l.drop k) := by
 conv => lhs; rw [← List.take_append_drop k l]
 exact digs_app _ h.dig
theorem Pre.ge {l : List UInt8} {k : Nat} {u : Int} (h : Pre l k u) : u ≤ (val 0 (Bd.digs l) : Nat) := by
 rw [h.digs, val_append, h.eq]
 exact Int.ofNat_le.2 (val_ge _ _)
theorem take_succ_getD (l : List UInt8) (k : Nat) (h : k < l.length) : l.take (k + 1) = l.take k ++ [l.getD k 0] := by
 rw [List.take_succ_eq_append_getElem h]
 simp [List.getD, h]
theorem Pre.succ {l : List UInt8} {k : Nat} {u : Int} (h : Pre l k u) (hk : k < l.length) (hd : isDig (l.getD k 0) = true) : Pre l (k + 1) (10 * u + ((l.getD k 0).toNat - 48)) := by
 refine ⟨fun c hc => ?_, hk, ?_⟩
 ·rw [take_succ_getD l k hk, List.mem_append] at hc
  rcases hc with hc | hc
  ·exact h.dig c hc
  ·simp only [List.mem_singleton] at hc
   rw [hc]; exact hd
 ·rw [take_succ_getD l k hk, val_append, h.eq]
  have e : val (val 0 (l.take k)) [l.getD k 0] = val 0 (l.take k) * 10 + dv (l.getD k 0) := rfl
  have := dv_eq hd
  rw [e]
  omega
theorem Pre.over {l : List UInt8} {k : Nat} {u : Int} (h : Pre l k u) (hu : 18446744073709551616 ≤ u) : numP l = (0, 0) := by
 have := h.ge
 unfold numP
 rw [if_neg]
 rintro ⟨_, _, h3⟩
 omega
theorem val_pow (l : List UInt8) : ∀ acc, acc * 10 ^ l.length ≤ val acc l := by
 induction l with
 | nil => intro acc; simp [val]
 | cons c r ih =>
  intro acc
  have e : val acc (c :: r) = val (acc * 10 + dv c) r := rfl
  have h1 := ih (acc * 10 + dv c)
  rw [e, List.length_cons, Nat.pow_succ]
  refine Nat.le_trans ?_ h1
  rw [Nat.mul_comm (10 ^ r.length) 10, ← Nat.mul_assoc]
  exact Nat.mul_le_mul_right _ (by omega)
theorem Pre.twenty {l : List UInt8} {k : Nat} {u : Int} (h : Pre l k u) (hk : 20 < k) : numP l = (0, 0) := by
 unfold numP
 rw [if_neg]
 rintro ⟨h1, h2, h3⟩
 have hl : k ≤ (Bd.digs l).length := by
  rw [h.digs, List.length_append, List.length_take]
  have := h.le
  omega
 have h2' := h2 (by omega)
 cases hd : Bd.digs l with
 | nil => exact h1 hd
 | cons c r =>
  rw [hd] at h2' h3 hl
  have hdg : isDig c = true := digs_all l c (by rw [hd]; simp)
  have hc := dv_eq hdg
  have h48 : c.toNat ≠ 48 := fun e => h2' (by
   simp only [List.head?_cons, Option.some.injEq]
   exact UInt8.toNat_inj.1 e)
  have e : val 0 (c :: r) = val (0 * 10 + dv c) r := rfl
  have hp := val_pow r (0 * 10 + dv c)
  rw [e] at h3
  have hr : 20 ≤ r.length := by simp at hl; omega
  have hpw : 10 ^ 20 ≤ 10 ^ r.length := Nat.pow_le_pow_right (by omega) hr
  have h20 : (10 : Nat) ^ 20 = 100000000000000000000 := by decide
  have h1' : 1 * 10 ^ r.length ≤ (0 * 10 + dv c) * 10 ^ r.length := Nat.mul_le_mul_right _ (by omega)
  omega
def Stops (l : List UInt8) (k : Nat) : Prop := k = l.length ∨ isDig (l.getD k 0) = false
theorem Stops.digs {l : List UInt8} {k : Nat} (hk : k ≤ l.length) (h : Stops l k) : Bd.digs (l.drop k) = [] := by
 rcases h with rfl | h
 ·rw [List.drop_length]; rfl
 ·by_cases e : k = l.length
  ·subst e; rw [List.drop_length]; rfl
  ·have hlt : k < l.length := by omega
   rw [List.drop_eq_getElem_cons hlt]
   have : l.getD k 0 = l[k] := by simp [List.getD, hlt]
   rw [this] at h
   unfold Bd.digs
   rw [List.takeWhile_cons, if_neg (by simp [h])]
theorem Pre.stop {l : List UInt8} {k : Nat} {u : Int} (h : Pre l k u) (hs : Stops l k) (hu : u < 18446744073709551616) : numP l = if 1 < k ∧ l.getD 0 0 = 48 then (0, 0) else (k, u.toNat) := by
 have hd : Bd.digs l = l.take k := by rw [h.digs, hs.digs h.le, List.append_nil]
 have hlen : (l.take k).length = k := by rw [List.length_take]; exact Nat.min_eq_left h.le
 unfold numP
 rw [hd, hlen]
 have heq := h.eq
 by_cases h0 : k = 0
 ·subst h0
  have : u = 0 := by simpa [val] using heq
  subst this
  simp
 ·have hne : l.take k ≠ [] := fun e => by rw [e] at hlen; simp at hlen; omega
  have hhd : (l.take k).head? = some (l.getD 0 0) := by
   cases l with
   | nil => simp at hne
   | cons c r => cases k with
    | zero => exact absurd rfl h0
    | succ k => rfl
  have hv : val 0 (l.take k) < 18446744073709551616 := by omega
  by_cases hc : 1 < k ∧ l.getD 0 0 = 48
  ·rw [if_neg, if_pos hc]
   rintro ⟨_, h2, _⟩
   exact h2 hc.1 (by rw [hhd, hc.2])
  ·rw [if_pos ⟨hne, fun h1 e => hc ⟨h1, by rw [hhd] at e; exact Option.some.inj e⟩, hv⟩, if_neg hc]
   rw [heq]
   simp
end Go.Proofs.YtjfpbeccpcbpcaaGreatDoor.Bd
namespace Go.Proofs.YtjfpbeccpcbpcaaGreatDoor.Bd
open Go.Lib
theorem numP_le (m : List UInt8) : (numP m).1 ≤ m.length ∧ (numP m).2 < 18446744073709551616 := by
 unfold numP
 split
 ·rename_i h
  refine ⟨?_, h.2.2⟩
  have := congrArg List.length (digs_split m)
  rw [List.length_append] at this
  omega
 ·exact ⟨Nat.zero_le _, by simp⟩
def sg (neg : Bool) : List UInt8 := if neg then [45] else []
def sv (neg : Bool) (u : Nat) : Int := if neg then -(u : Int) else u
def fits (neg : Bool) (u : Nat) : Prop := if neg then 0 < u ∧ u ≤ 9223372036854775808 else u < 9223372036854775808
theorem bInt_sv (neg : Bool) (u : Nat) (h : fits neg u) : bInt (sv neg u) = 105 :: (sg neg ++ (decDigits u ++ [101])) ∧ inR (sv neg u) := by
 cases neg with
 | true =>
  have hu : 0 < u ∧ u ≤ 9223372036854775808 := by simpa [fits] using h
  have e : sv true u = -(u : Int) := by simp [sv]
  refine ⟨?_, by rw [e]; unfold inR; omega⟩
  rw [e, bInt, itoa_neg u hu.1]
  simp [sg]
 | false =>
  simp only [fits] at h
  have h' : u < 9223372036854775808 := by simpa using h
  refine ⟨?_, by simp only [sv, inR]; simp; omega⟩
  simp only [sv, Bool.false_eq_true, if_false]
  rw [bInt, itoa_nonneg]
  simp [sg]
theorem sv_of (n : Int) (h : inR n) : ∃ neg u, n = sv neg u ∧ fits neg u := by
 obtain ⟨h1, h2⟩ := h
 by_cases hn : n < 0
 ·exact ⟨true, (-n).toNat, by simp [sv]; omega, by simp only [fits, if_true]; omega⟩
 ·exact ⟨false, n.toNat, by simp [sv]; omega, by simp [fits]; omega⟩
def goodI (neg : Bool) (t : List UInt8) : Prop := 0 < (numP t).1 ∧ (t.drop (numP t).1).head? = some 101 ∧ fits neg (numP t).2
instance (neg : Bool) (u : Nat) : Decidable (fits neg u) := by unfold fits; split <;> infer_instance
instance (neg : Bool) (t : List UInt8) : Decidable (goodI neg t) := by unfold goodI; infer_instance
theorem drop_head {t : List UInt8} {k : Nat} {c : UInt8} (h : (t.drop k).head? = some c) : t.drop k = c :: t.drop (k + 1) := by
 cases hd : t.drop k with
 | nil => rw [hd] at h; cases h
 | cons x r =>
  rw [hd] at h
  simp at h
  subst h
  have : t.drop (k + 1) = r := by rw [← List.drop_drop, hd]; rfl
  rw [this]
theorem dec_h (u : Nat) : ∃ c r, decDigits u = c :: r ∧ isDig c = true := by
 cases h : decDigits u with
 | nil => exact absurd h (dec_ne u)
 | cons c r => exact ⟨c, r, rfl, dec_dig u c (by rw [h]; simp)⟩
theorem rdInt_ref (neg : Bool) (t : List UInt8) (h : neg = false → t.head? ≠ some 45) :
  rdInt (105 :: (sg neg ++ t)) = if goodI neg t then some (sv neg (numP t).2, t.drop ((numP t).1 + 1)) else none := by
 by_cases hg : goodI neg t
 ·rw [if_pos hg]
  obtain ⟨h1, h2, h3⟩ := hg
  obtain ⟨e, _, _, _⟩ := numP_some h1
  have hd := drop_head h2
  obtain ⟨hb, hr⟩ := bInt_sv neg _ h3
  have := rdInt_of (t.drop ((numP t).1 + 1)) hr
  rw [hb] at this
  rw [← this]
  congr 1
  conv => lhs; rw [e, hd]
  simp
 ·rw [if_neg hg]
  cases hr : rdInt (105 :: (sg neg ++ t)) with
  | none => rfl
  | some x =>
   exfalso
   obtain ⟨n, r⟩ := x
   obtain ⟨hn, e⟩ := rdInt_some hr
   obtain ⟨neg', u, rfl, hf⟩ := sv_of n hn
   rw [(bInt_sv neg' u hf).1] at e
   simp only [List.cons_append, List.cons.injEq, true_and, List.append_assoc] at e
   obtain ⟨c, d, hdc, hcd⟩ := dec_h u
   have hne : c ≠ 45 := by rintro rfl; exact absurd hcd (by decide)
   have hu : u < 18446744073709551616 := by
    cases neg' <;> simp [fits] at hf <;> omega
   have key : ∀ t', t' = decDigits u ++ 101 :: r → numP t' = ((decDigits u).length, u) := fun t' ht => by
    rw [ht]
    exact numP_dec hu (fun c hc => by simp at hc; subst hc; decide)
   have fin : t = decDigits u ++ 101 :: r → neg = neg' → False := fun ht hn => by
    apply hg
    subst hn
    have hk := key t ht
    refine ⟨?_, ?_, ?_⟩
    ·rw [hk]; simp [hdc]
    ·rw [hk, ht]; simp
    ·rw [hk]; exact hf
   cases neg <;> cases neg'
   ·exact fin (by simpa [sg] using e) rfl
   ·simp [sg] at e
    rw [e] at h
    simp at h
   ·simp [sg, hdc] at e
    exact hne e.1.symm
   ·exact fin (by simpa [sg] using e) rfl
def goodT (most : Int) (m : List UInt8) : Prop := 0 < (numP m).1 ∧ (m.drop (numP m).1).head? = some 58 ∧ ((numP m).2 : Int) ≤ most ∧ (numP m).2 + (numP m).1 + 1 ≤ m.length
instance (most : Int) (m : List UInt8) : Decidable (goodT most m) := by unfold goodT; infer_instance
theorem rdText_ref (most : Int) (hm : most ≤ 9223372036854775807) (m : List UInt8) :
  rdText most m = if goodT most m then some ((m.drop ((numP m).1 + 1)).take (numP m).2, m.drop ((numP m).1 + 1 + (numP m).2)) else none := by
 by_cases hg : goodT most m
 ·rw [if_pos hg]
  obtain ⟨h1, h2, h3, h4⟩ := hg
  obtain ⟨e, _, _, _⟩ := numP_some h1
  have hd := drop_head h2
  have hl : ((m.drop ((numP m).1 + 1)).take (numP m).2).length = (numP m).2 := by rw [List.length_take, List.length_drop]; omega
  have := rdText_of (most := most) ((m.drop ((numP m).1 + 1)).take (numP m).2) (m.drop ((numP m).1 + 1 + (numP m).2)) (by rw [hl]; exact h3) (by rw [hl]; omega)
  rw [← this]
  congr 1
  rw [bText, hl, itoa_nonneg]
  conv => lhs; rw [e, hd]
  rw [List.append_assoc, List.cons_append, show m.drop ((numP m).1 + 1 + (numP m).2) = (m.drop ((numP m).1 + 1)).drop (numP m).2 by rw [List.drop_drop], List.take_append_drop]
 ·rw [if_neg hg]
  cases hr : rdText most m with
  | none => rfl
  | some x =>
   exfalso
   obtain ⟨t, r⟩ := x
   obtain ⟨ht, e⟩ := rdText_some hr
   rw [bText, itoa_nonneg, List.append_assoc] at e
   have hk : numP m = ((decDigits t.length).length, t.length) := by
    rw [e]
    exact numP_dec (by omega) (fun c hc => by simp at hc; subst hc; decide)
   obtain ⟨c, d, hdc, _⟩ := dec_h t.length
   apply hg
   refine ⟨?_, ?_, ?_, ?_⟩
   ·rw [hk]; simp [hdc]
   ·rw [hk, e]; simp
   ·rw [hk]; exact ht
   ·rw [hk, e]; simp; omega
end Go.Proofs.YtjfpbeccpcbpcaaGreatDoor.Bd
namespace Go.Proofs.YtjfpbeccpcbpcaaGreatDoor
open Go.RowKit
def NumV (l : List UInt8) (at_ : Nat) : Value := .tuple #[.int .i64 (Bd.numP (l.drop at_)).1, .int .u64 (Bd.numP (l.drop at_)).2]
theorem NumV.zero {l : List UInt8} {a : Nat} (h : Bd.numP (l.drop a) = (0, 0)) : NumV l a = .tuple #[.int .i64 0, .int .u64 0] := by rw [NumV, h]; rfl
theorem NumV.some {l : List UInt8} {a k : Nat} {u : Int} (h : Bd.numP (l.drop a) = (k, u.toNat)) (hu : 0 ≤ u) : NumV l a = .tuple #[.int .i64 k, .int .u64 u] := by
 rw [NumV, h]
 simp only
 rw [Int.toNat_of_nonneg hu]
theorem getD_drop (l : List UInt8) (a k : Nat) : (l.drop a).getD k 0 = l.getD (a + k) 0 := by
 simp [List.getD, List.getElem?_drop]
theorem not_dig {c : UInt8} (h : ¬(48 ≤ c.toNat ∧ c.toNat ≤ 57)) : Bd.isDig c = false := by simp only [Bd.isDig, h, decide_false]
theorem c48 {c : UInt8} : c = 48 ↔ c.toNat = 48 := ⟨fun h => by rw [h]; rfl, fun h => UInt8.toNat_inj.1 h⟩
theorem bnumber_any (l : List UInt8) (at_ : Nat) (hat : at_ ≤ l.length) (hl : l.length ≤ 4294967296) (w : World) :
  Calls Tryz.prog 120 #[.string ⟨l.toArray⟩, .int .i64 at_] w fun e w' => e = .returned (NumV l at_) ∧ w' = w := by
 have hd : Hid ((l.drop at_).length = l.length - at_) := List.length_drop
 go_enter Tryz.func120, Tryz.ntmps120
 go_wp2_with fail
 go_loopw [6, 7] (fun kv uv wr => ∃ (k : Nat) (u : Int), kv = .int .i64 k ∧ uv = .int .u64 u ∧ k ≤ 20 ∧ at_ + k ≤ l.length ∧ 0 ≤ u ∧ u ≤ 18446744073709551615 ∧ Bd.Pre (l.drop at_) k u ∧ wr = w) (fun kv _ _ => l.length - (intOf kv).toNat)
 case atStart => exact ⟨0, 0, rfl, rfl, by omega, by omega, by omega, by omega, Bd.Pre.zero _, rfl⟩
 case round =>
  obtain ⟨k, u, rfl, rfl, hk, hak, hu0, hu1, hp, rfl⟩ := hrel
  have PP := hq' hp
  clear hp
  have X0 : Hid (∀ x : UInt8, l.getD at_ 0 = x → ¬(1 < k ∧ x.toNat = 48) → ¬(1 < k ∧ (l.drop at_).getD 0 0 = 48)) := fun x hx hn ⟨h1, h2⟩ => by
   rw [getD_drop, Nat.add_zero, hx] at h2
   exact hn ⟨h1, c48.1 h2⟩
  have X1 : Hid (∀ x : UInt8, l.getD at_ 0 = x → 1 < k → x.toNat = 48 → (l.drop at_).getD 0 0 = 48) := fun x hx h1 h2 => by
   rw [getD_drop, Nat.add_zero, hx]
   exact c48.2 h2
  by_cases hlt : at_ + k < l.length
  ·have hix := str_at (P := Tryz.prog) l (at_ + k) ((at_ : Int) + k) (by omega) hlt 9 Tryz.underlying9
   have h0 := str_at (P := Tryz.prog) l at_ at_ rfl (by omega) 9 Tryz.underlying9
   have X := hq' (getD_drop l at_ k)
   have hc256 := UInt8.toNat_lt (l.getD (at_ + k) 0)
   have hx256 := UInt8.toNat_lt (l.getD at_ 0)
   have SU : Hid (48 ≤ (l.getD (at_ + k) 0).toNat ∧ (l.getD (at_ + k) 0).toNat ≤ 57 → Bd.Pre (l.drop at_) (k + 1) (10 * u + ((l.getD (at_ + k) 0).toNat - 48))) := fun hc => by
    have := PP.out.succ (by rw [hd.out]; omega) (by rw [X.out]; exact Bd.isDig_iff.2 hc)
    rwa [X.out] at this
   have ST : Hid (¬(48 ≤ (l.getD (at_ + k) 0).toNat ∧ (l.getD (at_ + k) 0).toNat ≤ 57) → Bd.Stops (l.drop at_) k) := fun hc => .inr (by rw [X.out]; exact not_dig hc)
   generalize he : l.getD at_ 0 = x at *
   have X0 := hq' (X0.out x rfl)
   have X1 := hq' (X1.out x rfl)
   clear he X
   generalize hc : (l.getD (at_ + k) 0).toNat = c at *
   generalize hxn : x.toNat = y at *
   clear hc hxn
   by_cases hdg : 48 ≤ c ∧ c ≤ 57
   ·obtain ⟨hd1, hd2⟩ := hdg
    have SS := hq' (SU.out ⟨hd1, hd2⟩)
    clear SU ST
    by_cases hk20 : k < 20
    ·by_cases hov : u > (18446744073709551615 - ((c : Int) - 48)) / 10
     ·have hz := SS.out.over (by omega)
      go_wp2
      go_ret2
      exact ⟨congrArg Ending.returned (NumV.zero hz).symm, rfl⟩
     ·go_wp2
      go_roundw
      case rel => exact ⟨k + 1, _, by go_num, rfl, by omega, by omega, by omega, by omega, SS.out, by first | rfl | trivial⟩
      case measure => simp [intOf]; omega
    ·have hz := SS.out.twenty (by omega)
     by_cases h1 : y = 48
     ·go_wp2
      go_ret2
      exact ⟨congrArg Ending.returned (NumV.zero hz).symm, rfl⟩
     ·go_wp2
      go_ret2
      exact ⟨congrArg Ending.returned (NumV.zero hz).symm, rfl⟩
   ·have SX := hq' (ST.out hdg)
    clear SU ST
    have hfin := PP.out.stop (SX.out) (by omega)
    by_cases h1 : 1 < k ∧ y = 48
    ·obtain ⟨h1, rfl⟩ := h1
     rw [if_pos ⟨h1, X1.out h1 rfl⟩] at hfin
     go_wp2
     all_goals (go_ret2; exact ⟨congrArg Ending.returned (NumV.zero hfin).symm, rfl⟩)
    ·rw [if_neg (X0.out h1)] at hfin
     go_wp2
     all_goals first
      | (exfalso; omega)
      | (go_ret2; exact ⟨congrArg Ending.returned (NumV.some hfin hu0).symm, rfl⟩)
      | (exfalso; simp only [beq_iff_eq] at *; omega)
  ·have hx256 := UInt8.toNat_lt (l.getD at_ 0)
   have SX : Hid (Bd.Stops (l.drop at_) k) := .inl (by rw [hd.out]; omega)
   by_cases hat2 : at_ < l.length
   ·have h0 := str_at (P := Tryz.prog) l at_ at_ rfl hat2 9 Tryz.underlying9
    generalize he : l.getD at_ 0 = x at *
    have X0 := hq' (X0.out x rfl)
    have X1 := hq' (X1.out x rfl)
    clear he
    generalize hxn : x.toNat = y at *
    clear hxn
    have hfin := PP.out.stop (SX.out) (by omega)
    by_cases h1 : 1 < k ∧ y = 48
    ·obtain ⟨h1, rfl⟩ := h1
     rw [if_pos ⟨h1, X1.out h1 rfl⟩] at hfin
     go_wp2
     all_goals (go_ret2; exact ⟨congrArg Ending.returned (NumV.zero hfin).symm, rfl⟩)
    ·rw [if_neg (X0.out h1)] at hfin
     go_wp2
     all_goals first
      | (exfalso; omega)
      | (go_ret2; exact ⟨congrArg Ending.returned (NumV.some hfin hu0).symm, rfl⟩)
      | (exfalso; simp only [beq_iff_eq] at *; omega)
   ·have hk0 : k = 0 := by omega
    subst hk0
    have hfin := PP.out.stop (SX.out) (by omega)
    rw [if_neg (by omega)] at hfin
    go_wp2
    go_ret2
    exact ⟨congrArg Ending.returned (NumV.some hfin hu0).symm, rfl⟩
end Go.Proofs.YtjfpbeccpcbpcaaGreatDoor
