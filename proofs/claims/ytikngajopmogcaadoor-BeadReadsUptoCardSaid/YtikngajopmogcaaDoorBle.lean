/-
  BeadCuts, BeadApart: plainly; and BeadWrites' walk.
  Conditions: the library's variables hold what they are laid with.
-/
import Derived.Test.YtikngajopmogcaaDoorBra
import Derived.Test.YtikngajopmogcaaDoorBa
import Derived.Test.YtikngajopmogcaaDoorOi
set_option linter.unusedVariables false
set_option linter.unusedSimpArgs false
namespace Go.Proofs.YtikngajopmogcaaDoor
open Go.RowKit

/-- So many numbers are asked for. -/
def runInts : Nat → Bd.St → Bd.St
  | 0, q => q
  | n + 1, q => runInts n (Bd.sInt q).2
theorem runInts_succ (n : Nat) (q : Bd.St) : runInts (n + 1) q = (Bd.sInt (runInts n q)).2 := by
  induction n generalizing q with
  | zero => rfl
  | succ n ih => rw [runInts, ih]; rfl
theorem runInts_bad (n : Nat) (s : List UInt8) : runInts n (s, true) = (s, true) := by
  induction n with
  | zero => rfl
  | succ n ih => rw [runInts, Bd.sInt_bad]; exact ih
def flat (zs : List Int) : List UInt8 := (zs.map Bd.bInt).flatten
theorem flat_nil : flat [] = [] := rfl
theorem flat_cons (z : Int) (zs : List Int) : flat (z :: zs) = Bd.bInt z ++ flat zs := by simp [flat]
theorem flat_snoc (zs : List Int) (z : Int) : flat (zs ++ [z]) = flat zs ++ Bd.bInt z := by simp [flat]
theorem bInt_length {z : Int} (h : Bd.inR z) : (Bd.bInt z).length ≤ 23 := by
  have := Lib.itoa_length_le z h.1 h.2
  simp [Bd.bInt]
  omega
theorem flat_length (zs : List Int) (h : ∀ z ∈ zs, Bd.inR z) : (flat zs).length ≤ 23 * zs.length := by
  induction zs with
  | nil => simp [flat]
  | cons z zs ih =>
    have h1 := bInt_length (h z (by simp))
    have h2 := ih (fun x hx => h x (by simp [hx]))
    rw [flat_cons, List.length_append, List.length_cons]
    omega
theorem runInts_flat (zs : List Int) (r : List UInt8) (h : ∀ z ∈ zs, Bd.inR z) : runInts zs.length (flat zs ++ r, false) = (r, false) := by
  induction zs with
  | nil => rfl
  | cons z zs ih =>
    rw [List.length_cons, runInts, flat_cons, List.append_assoc, Bd.sInt_of _ (h z (by simp))]
    exact ih (fun x hx => h x (by simp [hx]))
/-- If so many numbers and the end were taken off a beginning, it was all of it. -/
theorem runInts_all (zs : List Int) (q rest : List UInt8) (h : ∀ z ∈ zs, Bd.inR z) (e : flat zs ++ [101] = q ++ rest) (hd : Bd.sDone (Bd.sSign 101 (runInts zs.length (q, false))) = 0) : rest = [] := by
  induction zs generalizing q with
  | nil =>
    simp only [List.length_nil, runInts] at hd
    rw [flat_nil, List.nil_append] at e
    cases q with
    | nil => rw [Bd.sSign_no (by simp), Bd.sDone_bad] at hd; exact absurd hd (by decide)
    | cons c q =>
      have := congrArg List.length e
      simp at this
      exact this.2
  | cons z zs ih =>
    rw [List.length_cons, runInts] at hd
    cases hr : Bd.rdInt q with
    | none =>
      have es : Bd.sInt (q, false) = (0, (q, true)) := by simp [Bd.sInt, hr]
      rw [es] at hd
      rw [show ((0, (q, true)) : Int × Bd.St).2 = (q, true) from rfl, runInts_bad, Bd.sSign_bad, Bd.sDone_bad] at hd
      exact absurd hd (by decide)
    | some x =>
      obtain ⟨m, q'⟩ := x
      obtain ⟨hm, hq⟩ := Bd.rdInt_some hr
      have es : Bd.sInt (q, false) = (m, (q', false)) := by simp [Bd.sInt, hr]
      rw [es] at hd
      rw [flat_cons, List.append_assoc, hq, List.append_assoc] at e
      have h1 := Bd.rdInt_of (flat zs ++ [101]) (h z (by simp))
      rw [e, Bd.rdInt_of _ hm] at h1
      simp only [Option.some.injEq, Prod.mk.injEq] at h1
      exact ih q' (fun x hx => h x (by simp [hx])) h1.2.symm hd
theorem cuts_plain (zs : List Int) (h : ∀ z ∈ zs, Bd.inR z) (k : Nat) (hk : k ≤ (108 :: (flat zs ++ [101])).length) :
    (Bd.sDone (Bd.sSign 101 (runInts zs.length (Bd.sSign 108 ((108 :: (flat zs ++ [101])).take k, false)))) == 0) = (((k : Int) == ((108 :: (flat zs ++ [101])).length : Int))) := by
  by_cases e : k = (108 :: (flat zs ++ [101])).length
  · rw [e, List.take_length, Bd.sSign_of, runInts_flat zs _ h, Bd.sSign_of]
    simp [Bd.sDone]
  · have h2 : ((k : Int) == ((108 :: (flat zs ++ [101])).length : Int)) = false := beq_eq_false_iff_ne.2 (by omega)
    rw [h2, beq_eq_false_iff_ne]
    intro hd
    cases k with
    | zero =>
      rw [List.take_zero, Bd.sSign_no (by simp), runInts_bad, Bd.sSign_bad, Bd.sDone_bad] at hd
      exact absurd hd (by decide)
    | succ k =>
      rw [List.take_succ_cons, Bd.sSign_of] at hd
      have h3 := runInts_all zs ((flat zs ++ [101]).take k) ((flat zs ++ [101]).drop k) h (List.take_append_drop k _).symm hd
      rw [List.drop_eq_nil_iff] at h3
      simp at e h3 hk
      omega

set_option maxHeartbeats 800000 in
theorem writes_walk (n : Int) (hn : Bd.inR n) (s : List UInt8) (hs : s.length ≤ 1048576) (w : World) (hw : Lw w) :
    Calls Tryd.prog 3 #[.int .i64 n, .string ⟨s.toArray⟩] w fun e w' => e = .returned (.bool true) ∧ Below w.heap.size w w' := by
  have HW := Lib.hid hw
  have HN := Lib.hid hn
  clear hw hn
  have q1 : (Bd.bInt n == Bd.bInt n) = true := by simp
  have q2 : (Bd.bText s == Bd.bText s) = true := by simp
  go_enter Tryd.func3, Tryd.ntmps3
  go_wp2_with fail
  refine (awake_any _ HW.out).mono ?_
  rintro e w1 ⟨rfl, hb1⟩
  have B1 := Lib.hid hb1
  clear hb1
  go_wp2_with fail
  refine (beadInt_any n HN.out _ (HW.out.below B1.out)).mono ?_
  rintro e w2 ⟨rfl, hb2⟩
  have B2 := Lib.hid (bt B1.out hb2)
  clear hb2 B1
  go_wp2_with fail
  refine (refInt_any n HN.out _).mono ?_
  rintro e w3 ⟨rfl, m, rfl⟩
  have B3 := Lib.hid (below_drewN B2.out m)
  clear B2
  generalize w2.drewN m = w3 at *
  go_wp2_with fail
  refine (beadText_any s (by omega) _ (HW.out.below B3.out)).mono ?_
  rintro e w4 ⟨rfl, hb4⟩
  have B4 := Lib.hid (bt B3.out hb4)
  clear hb4 B3
  go_wp2_with fail
  refine (refText_any s (by omega) _).mono ?_
  rintro e w5 ⟨rfl, m, rfl⟩
  have B5 := Lib.hid (below_drewN B4.out m)
  clear B4
  generalize w4.drewN m = w5 at *
  go_wp2_with fail
  have B6 : Hid (Below w.heap.size w (w5.alloc (.cells #[.string ⟨s.toArray⟩, .string ⟨s.toArray⟩] 9))) := B5.out.alloc B5.out.size _
  refine (beadList_any _ [s, s] _ (strs_new w5 [s, s] 9) (by simp) (by simp; omega)).mono ?_
  rintro e w7 ⟨rfl, hb7⟩
  have B7 := Lib.hid (bt B6.out hb7)
  clear hb7 B6
  have el : (108 :: ([s, s].flatten ++ [101]) : List UInt8) = 108 :: (s ++ (s ++ [101])) := by simp
  rw [el]
  clear el
  go_wp2
  go_ret
  exact ⟨rfl, B7.out⟩

end Go.Proofs.YtikngajopmogcaaDoor
