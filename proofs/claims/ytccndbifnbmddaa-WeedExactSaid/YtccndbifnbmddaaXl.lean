/-
  WeedExact: the plain law: the document's fold by insertion is the fold by a map; what it calls useless.
  Conditions: none.
-/
import Derived.Test.YtccndbifnbmddaaXg
set_option linter.unusedVariables false
set_option linter.unusedSimpArgs false
namespace Go.Proofs.Ytccndbifnbmddaa

abbrev StrictR (l : List Cr.Rec) : Prop := l.Pairwise (fun a b => a.key < b.key)
/-- A record put in its place. -/
def insF (x : Cr.Rec) : List Cr.Rec → List Cr.Rec
  | [] => [x]
  | y :: r => if x.key < y.key then x :: y :: r else if y.key = x.key then (if y.off ≤ x.off then x else y) :: r else y :: insF x r
theorem lt_of_not {a b : List UInt8} (h : ¬ a < b) (h2 : ¬ b = a) : b < a := by
  rcases List.le_iff_lt_or_eq.1 (List.not_lt.1 h) with h3 | h3
  · exact h3
  · exact absurd h3 h2
theorem mem_insF {x z : Cr.Rec} : ∀ {A : List Cr.Rec}, StrictR A → (z ∈ insF x A ↔ (z ∈ A ∧ z.key ≠ x.key) ∨ (z = x ∧ ∀ y ∈ A, y.key = x.key → y.off ≤ x.off) ∨ (z ∈ A ∧ z.key = x.key ∧ ¬ z.off ≤ x.off))
  | [], _ => by simp [insF]
  | y :: r, h => by
    obtain ⟨h1, h2⟩ := List.pairwise_cons.1 h
    have ne : ∀ w ∈ r, y.key = x.key ∨ x.key < y.key → w.key ≠ x.key := fun w hw hc e => by
      have := h1 w hw
      rw [e] at this
      rcases hc with hc | hc
      · rw [hc] at this; exact List.lt_irrefl _ this
      · exact List.lt_asymm this hc
    rw [insF]
    split
    · rename_i hlt
      have hy : y.key ≠ x.key := fun e => by rw [e] at hlt; exact List.lt_irrefl _ hlt
      simp only [List.mem_cons]
      constructor
      · rintro (rfl | rfl | hz)
        · exact .inr (.inl ⟨rfl, fun w hw e => by
            rcases hw with rfl | hw
            · exact absurd e hy
            · exact absurd e (ne w hw (.inr hlt))⟩)
        · exact .inl ⟨.inl rfl, hy⟩
        · exact .inl ⟨.inr hz, ne z hz (.inr hlt)⟩
      · rintro (⟨h3, _⟩ | ⟨h3, _⟩ | ⟨h3, _, _⟩)
        · exact .inr h3
        · exact .inl h3
        · exact .inr h3
    · split
      · rename_i hlt he
        simp only [List.mem_cons]
        constructor
        · rintro (hz | hz)
          · split at hz
            · rename_i hle
              exact .inr (.inl ⟨hz, fun w hw e => by
                rcases hw with rfl | hw
                · exact hle
                · exact absurd e (ne w hw (.inl he))⟩)
            · rename_i hle
              subst hz
              exact .inr (.inr ⟨.inl rfl, he, hle⟩)
          · exact .inl ⟨.inr hz, ne z hz (.inl he)⟩
        · rintro (⟨h3, h4⟩ | ⟨h3, h4⟩ | ⟨h3, h4, h5⟩)
          · rcases h3 with rfl | h3
            · exact absurd he h4
            · exact .inr h3
          · left; rw [if_pos (h4 y (.inl rfl) he)]; exact h3
          · rcases h3 with rfl | h3
            · left; rw [if_neg h5]
            · exact .inr h3
      · rename_i hlt he
        rw [List.mem_cons, mem_insF h2]
        simp only [List.mem_cons]
        constructor
        · rintro (rfl | ⟨h3, h4⟩ | ⟨h3, h4⟩ | ⟨h3, h4, h5⟩)
          · exact .inl ⟨.inl rfl, he⟩
          · exact .inl ⟨.inr h3, h4⟩
          · exact .inr (.inl ⟨h3, fun w hw e => by
              rcases hw with rfl | hw
              · exact absurd e he
              · exact h4 w hw e⟩)
          · exact .inr (.inr ⟨.inr h3, h4, h5⟩)
        · rintro (⟨h3 | h3, h4⟩ | ⟨h3, h4⟩ | ⟨h3 | h3, h4, h5⟩)
          · exact .inl h3
          · exact .inr (.inl ⟨h3, h4⟩)
          · exact .inr (.inr (.inl ⟨h3, fun w hw e => h4 w (.inr hw) e⟩))
          · subst h3; exact absurd h4 he
          · exact .inr (.inr (.inr ⟨h3, h4, h5⟩))
theorem strict_insF {x : Cr.Rec} : ∀ {A : List Cr.Rec}, StrictR A → StrictR (insF x A)
  | [], _ => by simp [insF]
  | y :: r, h => by
    obtain ⟨h1, h2⟩ := List.pairwise_cons.1 h
    rw [insF]
    split
    · rename_i hlt
      refine List.pairwise_cons.2 ⟨fun w hw => ?_, h⟩
      rcases List.mem_cons.1 hw with rfl | hw
      · exact hlt
      · exact List.lt_trans hlt (h1 w hw)
    · split
      · rename_i hlt he
        refine List.pairwise_cons.2 ⟨fun w hw => ?_, h2⟩
        have := h1 w hw
        split
        · rw [← he]; exact this
        · exact this
      · rename_i hlt he
        refine List.pairwise_cons.2 ⟨fun w hw => ?_, strict_insF h2⟩
        rcases (mem_insF h2).1 hw with ⟨h3, _⟩ | ⟨h3, _⟩ | ⟨h3, _⟩
        · exact h1 w h3
        · rw [h3]; exact lt_of_not hlt he
        · exact h1 w h3
def refStep (upto : Int) (A : List Cr.Rec) (x : Cr.Rec) : List Cr.Rec := if x.key = [] ∨ upto ≤ x.off then A else insF x A
def refB (upto : Int) (A : List Cr.Rec) (b : Cr.Batch) : List Cr.Rec := b.recs.foldl (refStep upto) A
def refL (upto : Int) (l : List Cr.Batch) : List Cr.Rec := l.foldl (refB upto) []
def refFold (upto : Int) (l : List Cr.Batch) : List Cr.Rec := (refL upto l).filter (fun x => !x.gone)
/-- The list of the document beside the map. -/
structure RefOf (A : List Cr.Rec) (m : RM) : Prop where
  nod : (m.map (·.1)).Nodup
  key : ∀ q ∈ m, q.1 = q.2.key
  strict : StrictR A
  mem : ∀ z, z ∈ A ↔ (z.key, z) ∈ m
theorem refStep_of {upto : Int} {A : List Cr.Rec} {m : RM} (h : RefOf A m) (x : Cr.Rec) : RefOf (refStep upto A x) (foldStep upto m x) := by
  unfold refStep foldStep
  by_cases hs : x.key = [] ∨ upto ≤ x.off
  · rw [if_pos hs, if_neg]
    · exact h
    · simp only [foldNew, Bool.and_eq_true, decide_eq_true_eq]
      rintro ⟨h1, h2, _⟩
      rcases hs with e | e
      · exact h1 e
      · omega
  · rw [if_neg hs]
    have h1 : x.key ≠ [] := fun e => hs (.inl e)
    have h2 : x.off < upto := by
      apply Classical.byContradiction
      intro e
      exact hs (.inr (by omega))
    by_cases hn : foldNew upto m x = true
    · rw [if_pos hn]
      simp only [foldNew, Bool.and_eq_true, decide_eq_true_eq] at hn
      have hbest : ∀ y ∈ A, y.key = x.key → y.off ≤ x.off := fun y hy e => by
        have hl := lookR_of_mem h.nod ((h.mem y).1 hy)
        rw [e] at hl
        have h3 := hn.2.2
        rw [hl] at h3
        exact of_decide_eq_true h3
      obtain ⟨hk1, hk2⟩ := updR_keys h.nod x.key x
      refine ⟨hk1, fun q hq => ?_, strict_insF h.strict, fun z => ?_⟩
      · rcases (hk2 q).1 hq with rfl | ⟨hq, _⟩
        · rfl
        · exact h.key q hq
      · rw [mem_insF h.strict, hk2]
        constructor
        · rintro (⟨h3, h4⟩ | ⟨h3, _⟩ | ⟨h3, h4, h5⟩)
          · exact .inr ⟨(h.mem z).1 h3, h4⟩
          · subst h3; exact .inl rfl
          · exact absurd (hbest z h3 h4) h5
        · rintro (h3 | ⟨h3, h4⟩)
          · injection h3 with _ h3; exact .inr (.inl ⟨h3, hbest⟩)
          · exact .inl ⟨(h.mem z).2 h3, h4⟩
    · rw [if_neg hn]
      obtain ⟨y, hy, hlt⟩ : ∃ y, lookR m x.key = some y ∧ ¬ y.off ≤ x.off := by
        cases hl : lookR m x.key with
        | none => exact absurd (by simp [foldNew, hl, h1, h2]) hn
        | some y => exact ⟨y, rfl, fun e => hn (by simp [foldNew, hl, h1, h2, e])⟩
      have hym := lookR_mem hy
      have hyk : y.key = x.key := (h.key _ hym).symm
      have hyA : y ∈ A := (h.mem y).2 (by rw [hyk]; exact hym)
      refine ⟨h.nod, h.key, strict_insF h.strict, fun z => ?_⟩
      rw [mem_insF h.strict, ← h.mem z]
      constructor
      · rintro (⟨h3, _⟩ | ⟨h3, h4⟩ | ⟨h3, _, _⟩)
        · exact h3
        · exact absurd (h4 y hyA hyk) hlt
        · exact h3
      · intro h3
        by_cases e : z.key = x.key
        · refine .inr (.inr ⟨h3, e, ?_⟩)
          have hz := lookR_of_mem h.nod ((h.mem z).1 h3)
          rw [e, hy] at hz
          injection hz with hz
          rw [← hz]; exact hlt
        · exact .inl ⟨h3, e⟩
theorem refFoldl_of (upto : Int) : ∀ (R A : List Cr.Rec) (m : RM), RefOf A m → RefOf (R.foldl (refStep upto) A) (R.foldl (foldStep upto) m)
  | [], _, _, h => h
  | x :: R, A, m, h => refFoldl_of upto R _ _ (refStep_of h x)
theorem refL_flat (upto : Int) (l : List Cr.Batch) : refL upto l = (recsOf l).foldl (refStep upto) [] := foldl_flat (refStep upto) (refB upto) (fun _ _ => rfl) l []
theorem refL_of (upto : Int) (l : List Cr.Batch) : RefOf (refL upto l) (foldL upto l) := by
  rw [refL_flat, foldL_flat]
  exact refFoldl_of upto (recsOf l) [] [] ⟨by simp, fun q hq => (by simp at hq), List.Pairwise.nil, fun z => by simp⟩
/-- The two folds are the same. -/
theorem refFold_eq {upto : Int} {l : List Cr.Batch} {f : List Cr.Rec} (hp : f.Perm ((liveR (foldL upto l)).map (·.2))) (hs : SortedR f) : f = refFold upto l := by
  have h := refL_of upto l
  refine sorted_ext (strict_of hs ((hp.map (·.key)).nodup_iff.2 (live_keys upto l))) (h.strict.sublist List.filter_sublist) (fun z => ?_)
  rw [hp.mem_iff]
  simp only [refFold, liveR, List.mem_map, List.mem_filter, h.mem]
  constructor
  · rintro ⟨q, ⟨hq, hg⟩, rfl⟩
    refine ⟨?_, hg⟩
    rw [← h.key q hq]; exact hq
  · rintro ⟨hz, hg⟩
    exact ⟨_, ⟨hz, hg⟩, rfl⟩
theorem refL_strict (upto : Int) (l : List Cr.Batch) (k : Nat) (b : Cr.Batch) (j : Nat) : StrictR ((b.recs.take j).foldl (refStep upto) ((l.take k).foldl (refB upto) [])) := by
  have h1 := refL_of upto (l.take k)
  exact (refFoldl_of upto (b.recs.take j) _ _ h1).strict
theorem insF_len (x : Cr.Rec) (A : List Cr.Rec) : (insF x A).length ≤ A.length + 1 := by
  induction A with
  | nil => simp [insF]
  | cons y r ih =>
    rw [insF]
    split
    · simp
    · split
      · simp
      · simp only [List.length_cons]; omega
theorem refStep_len (upto : Int) (A : List Cr.Rec) (x : Cr.Rec) : (refStep upto A x).length ≤ A.length + 1 := by
  unfold refStep
  split
  · omega
  · exact insF_len x A
theorem refFoldl_len (upto : Int) : ∀ (R A : List Cr.Rec), (R.foldl (refStep upto) A).length ≤ A.length + R.length
  | [], _ => by simp
  | x :: R, A => by
    have h1 := refFoldl_len upto R (refStep upto A x)
    have h2 := refStep_len upto A x
    simp only [List.foldl_cons, List.length_cons]
    omega
/-- The loop that puts a record in its place: what it has, whether the record is in it, the elements that it has seen. -/
structure Ins (x : Cr.Rec) (A : List Cr.Rec) (j : Nat) (out : List Cr.Rec) (done : Bool) : Prop where
  no : done = false → out = A.take j ∧ insF x A = A.take j ++ insF x (A.drop j)
  yes : done = true → out ++ A.drop j = insF x A ∧ ∀ z ∈ A.drop j, x.key < z.key
theorem Ins.zero (x : Cr.Rec) (A : List Cr.Rec) : Ins x A 0 [] false := ⟨fun _ => ⟨rfl, rfl⟩, fun h => by cases h⟩
theorem drop_one {A : List Cr.Rec} {j : Nat} {y : Cr.Rec} (h : A[j]? = some y) : A.drop j = y :: A.drop (j + 1) := by
  obtain ⟨hk, rfl⟩ := List.getElem?_eq_some_iff.1 h
  exact List.drop_eq_getElem_cons hk
theorem take_one {A : List Cr.Rec} {j : Nat} {y : Cr.Rec} (h : A[j]? = some y) : A.take (j + 1) = A.take j ++ [y] := by
  obtain ⟨hk, rfl⟩ := List.getElem?_eq_some_iff.1 h
  exact List.take_succ_eq_append_getElem hk
theorem strict_above {A : List Cr.Rec} (hs : StrictR A) {j : Nat} {y : Cr.Rec} (h : A[j]? = some y) : ∀ z ∈ A.drop (j + 1), y.key < z.key := by
  have h1 : StrictR (A.drop j) := hs.sublist (List.drop_sublist _ _)
  rw [drop_one h] at h1
  exact (List.pairwise_cons.1 h1).1
theorem Ins.pass {x y : Cr.Rec} {A out : List Cr.Rec} {j : Nat} (h : Ins x A j out false) (hy : A[j]? = some y) (h1 : ¬ x.key < y.key) (h2 : ¬ y.key = x.key) : Ins x A (j + 1) (out ++ [y]) false := by
  obtain ⟨e1, e2⟩ := h.no rfl
  refine ⟨fun _ => ⟨by rw [e1, take_one hy], ?_⟩, fun h => by cases h⟩
  rw [e2, drop_one hy, insF, if_neg h1, if_neg h2, take_one hy, List.append_assoc]
  rfl
theorem Ins.here {x y : Cr.Rec} {A out : List Cr.Rec} {j : Nat} (hs : StrictR A) (h : Ins x A j out false) (hy : A[j]? = some y) (h1 : x.key < y.key) : Ins x A (j + 1) (out ++ [x] ++ [y]) true := by
  obtain ⟨e1, e2⟩ := h.no rfl
  refine ⟨fun h => (by cases h), fun _ => ⟨?_, fun z hz => List.lt_trans h1 (strict_above hs hy z hz)⟩⟩
  rw [e2, drop_one hy, insF, if_pos h1, e1]
  simp
theorem Ins.same {x y : Cr.Rec} {A out : List Cr.Rec} {j : Nat} (hs : StrictR A) (h : Ins x A j out false) (hy : A[j]? = some y) (h1 : ¬ x.key < y.key) (h2 : y.key = x.key) : Ins x A (j + 1) (out ++ [if y.off ≤ x.off then x else y]) true := by
  obtain ⟨e1, e2⟩ := h.no rfl
  refine ⟨fun h => (by cases h), fun _ => ⟨?_, fun z hz => by rw [← h2]; exact strict_above hs hy z hz⟩⟩
  rw [e2, drop_one hy, insF, if_neg h1, if_pos h2, e1]
  simp
theorem Ins.after {x y : Cr.Rec} {A out : List Cr.Rec} {j : Nat} (h : Ins x A j out true) (hy : A[j]? = some y) : Ins x A (j + 1) (out ++ [y]) true ∧ x.key < y.key := by
  obtain ⟨e1, e2⟩ := h.yes rfl
  rw [drop_one hy] at e1 e2
  exact ⟨⟨fun h => (by cases h), fun _ => ⟨by rw [← e1]; simp, fun z hz => e2 z (List.mem_cons_of_mem _ hz)⟩⟩, e2 y (by simp)⟩
theorem Ins.endNo {x : Cr.Rec} {A out : List Cr.Rec} (h : Ins x A A.length out false) : out ++ [x] = insF x A := by
  obtain ⟨e1, e2⟩ := h.no rfl
  rw [e2, e1, List.drop_length, List.take_length]
  rfl
theorem Ins.endYes {x : Cr.Rec} {A out : List Cr.Rec} (h : Ins x A A.length out true) : out = insF x A := by
  obtain ⟨e1, _⟩ := h.yes rfl
  rw [← e1, List.drop_length, List.append_nil]
theorem Ins.len {x : Cr.Rec} {A out : List Cr.Rec} {j : Nat} {d : Bool} (h : Ins x A j out d) : out.length ≤ A.length + 1 := by
  cases d with
  | false =>
    rw [(h.no rfl).1, List.length_take]; omega
  | true =>
    have h1 := congrArg List.length (h.yes rfl).1
    have h2 := insF_len x A
    rw [List.length_append] at h1
    omega
/-- The document's word for a record that is useless. -/
def useR (R : List Cr.Rec) (high time now hor : Int) (x : Cr.Rec) : Bool :=
  decide (x.key ≠ []) && (decide (x.off < high) && ((x.gone && decide (time ≤ now - hor)) || R.any (fun y => decide (y.key = x.key) && (decide (x.off < y.off) && decide (y.off < high)))))
theorem useR_iff {R : List Cr.Rec} {high time now hor : Int} {x : Cr.Rec} : useR R high time now hor x = true ↔ Use true high R time now hor x := by
  unfold useR Use
  simp only [Bool.and_eq_true, Bool.or_eq_true, decide_eq_true_eq, List.any_eq_true]
  constructor
  · rintro ⟨h1, h2, h3⟩
    refine ⟨trivial, h1, h2, ?_⟩
    rcases h3 with h3 | ⟨y, hy, h4, h5, h6⟩
    · exact .inr h3
    · exact .inl ⟨y, hy, h4, h6, h5⟩
  · rintro ⟨_, h1, h2, h3⟩
    refine ⟨h1, h2, ?_⟩
    rcases h3 with ⟨y, hy, h4, h6, h5⟩ | h3
    · exact .inr ⟨y, hy, h4, h5, h6⟩
    · exact .inl h3
def stayR (ok : Bool) (l : List Cr.Batch) (high now hor : Int) (b : Cr.Batch) (x : Cr.Rec) : Bool := !ok || !useR (recsOf l) high b.time now hor x
def thinRB (ok : Bool) (l : List Cr.Batch) (high now hor : Int) (b : Cr.Batch) : Cr.Batch := { b with recs := b.recs.filter (stayR ok l high now hor b) }
theorem thinRB_eq {ok : Bool} {l : List Cr.Batch} {high now hor : Int} {b : Cr.Batch} (hb : b ∈ l) : thinRB ok l high now hor b = thinB ok high (lastL high l) now hor b := by
  simp only [thinRB, thinB]
  congr 1
  refine List.filter_congr (fun x hx => ?_)
  have hu := useless_iff (ok := ok) (high := high) (time := b.time) (now := now) (hor := hor) (mem_recsOf.2 ⟨b, hb, hx⟩)
  rw [Bool.eq_iff_iff, stayR]
  simp only [Bool.or_eq_true, Bool.not_eq_true', ← Bool.not_eq_true]
  rw [hu, useR_iff]
  cases ok with
  | false => simp [Use]
  | true => simp
theorem thinR_eq (l : List Cr.Batch) (high now hor : Int) : l.map (thinRB (isT now && isT hor) l high now hor) = thin l high now hor := by
  rw [thin]
  exact List.map_congr_left (fun b hb => thinRB_eq hb)

end Go.Proofs.Ytccndbifnbmddaa
