/-
  Crate, plainly: records, batches, what they are written as and read from. No program in sight.
  Conditions: none.
-/
import Derived.Test.YtbljbdjmgogknaaGreatDoorBd
set_option linter.unusedVariables false
set_option linter.unusedSimpArgs false
namespace Go.Proofs.YtbljbdjmgogknaaGreatDoor.Cr

structure Rec where
  off : Int
  key : List UInt8
  val : List UInt8
  gone : Bool
structure Batch where
  base : Int
  count : Int
  prod : Int
  seq : Int
  time : Int
  recs : List Rec
/-- Two records are the same. -/
def recEq (a b : Rec) : Bool := a.off == b.off && a.key == b.key && a.val == b.val && a.gone == b.gone
theorem recEq_iff {a b : Rec} : recEq a b = true ↔ a = b := by
  cases a; cases b
  simp [recEq, and_assoc]
def recsEq : List Rec → List Rec → Bool
  | [], [] => true
  | a :: l, b :: r => recEq a b && recsEq l r
  | _, _ => false
theorem recsEq_iff {l r : List Rec} : recsEq l r = true ↔ l = r := by
  induction l generalizing r with
  | nil => cases r <;> simp [recsEq]
  | cons a l ih =>
    cases r with
    | nil => simp [recsEq]
    | cons b r => simp [recsEq, recEq_iff, ih]
/-- Two batches are the same. -/
def same (a b : Batch) : Bool := a.base == b.base && a.count == b.count && a.prod == b.prod && a.seq == b.seq && a.time == b.time && recsEq a.recs b.recs
theorem same_iff {a b : Batch} : same a b = true ↔ a = b := by
  cases a; cases b
  simp [same, recsEq_iff, and_assoc]
def isNum (n : Int) : Bool := decide (0 ≤ n) && decide (n ≤ 1099511627776)
def isRec (x : Rec) : Bool := decide (x.key.length ≤ 16) && (decide (x.val.length ≤ 64) && (!x.gone || x.val.isEmpty))
def goodRecs (hi : Int) : Int → List Rec → Bool
  | _, [] => true
  | next, x :: r => isRec x && (decide (next ≤ x.off) && (decide (x.off < hi) && goodRecs hi (x.off + 1) r))
def good (b : Batch) : Bool :=
  isNum b.base && (isNum b.prod && (isNum b.seq && (isNum b.time && (decide (1 ≤ b.count) && (decide (b.count ≤ 8) && (decide (b.base ≤ 1099511627776 - b.count) &&
    (decide ((b.recs.length : Int) ≤ b.count) && goodRecs (b.base + b.count) b.base b.recs)))))))
def fits (l : List Rec) : Bool := decide (1 ≤ l.length) && (decide (l.length ≤ 8) && l.all isRec)
/-- The records at the offsets from base on. -/
def offs : Int → List Rec → List Rec
  | _, [] => []
  | n, x :: r => { x with off := n } :: offs (n + 1) r
def packed (l : List Rec) (base prod seq time : Int) : Batch := ⟨base, l.length, prod, seq, time, offs base l⟩
def pack (l : List Rec) (base prod seq time : Int) : Option Batch :=
  if fits l && isNum base && good (packed l base prod seq time) then some (packed l base prod seq time) else none
def flag (b : Bool) : Int := if b then 1 else 0
def encRec (x : Rec) : List UInt8 := 108 :: (Bd.bInt x.off ++ (Bd.bText x.key ++ (Bd.bText x.val ++ (Bd.bInt (flag x.gone) ++ [101]))))
def encRecs (l : List Rec) : List UInt8 := (l.map encRec).flatten
def nums (b : Batch) : List UInt8 := Bd.bInt b.base ++ (Bd.bInt b.count ++ (Bd.bInt b.prod ++ (Bd.bInt b.seq ++ Bd.bInt b.time)))
def enc (b : Batch) : List UInt8 := 108 :: (nums b ++ (encRecs b.recs ++ [101]))

/-! ### Reading -/

/-- A record is taken off: the record, whether its mark is 1 or 0, what is left. -/
def sRec (q : Bd.St) : Rec × Bool × Bd.St :=
  let q1 := Bd.sSign 108 q
  let o := Bd.sInt q1
  let k := Bd.sText 16 o.2
  let v := Bd.sText 64 k.2
  let g := Bd.sInt v.2
  let q6 := Bd.sSign 101 g.2
  (⟨o.1, k.1, v.1, g.1 == 1⟩, g.1 == flag (g.1 == 1), q6)
/-- Records are taken off while there are more; none: it is wrong. -/
def sRecs : Nat → List Rec → Bd.St → Option (List Rec × Bd.St)
  | 0, _, _ => none
  | n + 1, acc, q => if Bd.sMore q then (if (sRec q).2.1 && decide (acc.length ≤ 8) then sRecs n (acc ++ [(sRec q).1]) (sRec q).2.2 else none) else some (acc, q)
/-- Five numbers are taken off. -/
def sNums (q : Bd.St) : Int × Int × Int × Int × Int × Bd.St :=
  let a := Bd.sInt q
  let b := Bd.sInt a.2
  let c := Bd.sInt b.2
  let d := Bd.sInt c.2
  let e := Bd.sInt d.2
  (a.1, b.1, c.1, d.1, e.1, e.2)
def dec (s : List UInt8) : Option Batch :=
  let m := sNums (Bd.sSign 108 (s, false))
  match sRecs 11 [] m.2.2.2.2.2 with
  | none => none
  | some (rs, q) => if Bd.sDone (Bd.sSign 101 q) = 0 && good ⟨m.1, m.2.1, m.2.2.1, m.2.2.2.1, m.2.2.2.2.1, rs⟩ then some ⟨m.1, m.2.1, m.2.2.1, m.2.2.2.1, m.2.2.2.2.1, rs⟩ else none

theorem inR_num {n : Int} (h : isNum n = true) : Bd.inR n := by
  simp only [isNum, Bool.and_eq_true, decide_eq_true_eq] at h
  exact ⟨by omega, by omega⟩
theorem inR_flag (b : Bool) : Bd.inR (flag b) := by cases b <;> exact ⟨by decide, by decide⟩
theorem flag_gone (b : Bool) : (flag b == 1) = b := by cases b <;> rfl
/-- A record that was written is read. -/
theorem sRec_of {x : Rec} (hx : isRec x = true) (ho : Bd.inR x.off) (r : List UInt8) : sRec (encRec x ++ r, false) = (x, true, (r, false)) := by
  simp only [isRec, Bool.and_eq_true, decide_eq_true_eq] at hx
  obtain ⟨h1, h2, _⟩ := hx
  have e : encRec x ++ r = 108 :: (Bd.bInt x.off ++ (Bd.bText x.key ++ (Bd.bText x.val ++ (Bd.bInt (flag x.gone) ++ (101 :: r))))) := by
    simp [encRec]
  unfold sRec
  rw [e, Bd.sSign_of]
  simp only [Bd.sInt_of _ ho, Bd.sText_of (most := 16) _ _ (show (x.key.length : Int) ≤ 16 by omega) (by omega), Bd.sText_of (most := 64) _ _ (show (x.val.length : Int) ≤ 64 by omega) (by omega), Bd.sInt_of _ (inR_flag _), Bd.sSign_of, flag_gone]
  simp
theorem encRec_head (x : Rec) : ∃ t, encRec x = 108 :: t := ⟨_, rfl⟩
theorem sRecs_of (l : List Rec) : ∀ (n : Nat) (acc : List Rec) (r : List UInt8), (∀ x ∈ l, isRec x = true ∧ Bd.inR x.off) → l.length < n → acc.length + l.length ≤ 9 → (∀ c, r.head? = some c → c = 101) →
    sRecs n acc (encRecs l ++ r, false) = some (acc ++ l, (r, false)) := by
  induction l with
  | nil =>
    intro n acc r _ hn _ hr
    obtain ⟨m, rfl⟩ : ∃ m, n = m + 1 := ⟨n - 1, by simp at hn; omega⟩
    have hm : Bd.sMore (r, false) = false := by
      cases r with
      | nil => rfl
      | cons c r =>
        rw [hr c rfl]
        simp [Bd.sMore]
    simp [sRecs, encRecs, hm]
  | cons x l ih =>
    intro n acc r hx hn ha hr
    obtain ⟨m, rfl⟩ : ∃ m, n = m + 1 := ⟨n - 1, by simp at hn; omega⟩
    have e : encRecs (x :: l) ++ r = encRec x ++ (encRecs l ++ r) := by simp [encRecs]
    have hx1 := hx x (by simp)
    have hm : Bd.sMore (encRec x ++ (encRecs l ++ r), false) = true := by
      simp [Bd.sMore, encRec]
    simp only [List.length_cons] at hn ha
    rw [sRecs, e, hm, if_pos rfl, sRec_of hx1.1 hx1.2]
    simp only [Bool.true_and]
    rw [if_pos (decide_eq_true (by omega)), ih m (acc ++ [x]) r (fun y hy => hx y (by simp [hy])) (by omega) (by rw [List.length_append, List.length_singleton]; omega) hr]
    simp
theorem goodRecs_all {hi : Int} : ∀ {l : List Rec} {next : Int}, goodRecs hi next l = true → ∀ x ∈ l, isRec x = true ∧ next ≤ x.off ∧ x.off < hi := by
  intro l
  induction l with
  | nil => intro _ _ x hx; cases hx
  | cons y l ih =>
    intro next h x hx
    simp only [goodRecs, Bool.and_eq_true, decide_eq_true_eq] at h
    obtain ⟨h1, h2, h3, h4⟩ := h
    rcases List.mem_cons.1 hx with rfl | hx
    · exact ⟨h1, h2, h3⟩
    · obtain ⟨g1, g2, g3⟩ := ih h4 x hx
      exact ⟨g1, by omega, g3⟩
theorem good_nums {b : Batch} (h : good b = true) : isNum b.base = true ∧ isNum b.prod = true ∧ isNum b.seq = true ∧ isNum b.time = true ∧ 1 ≤ b.count ∧ b.count ≤ 8 ∧ b.base ≤ 1099511627776 - b.count ∧ (b.recs.length : Int) ≤ b.count ∧ goodRecs (b.base + b.count) b.base b.recs = true := by
  simpa only [good, Bool.and_eq_true, decide_eq_true_eq] using h
theorem sNums_of {b : Batch} (h : good b = true) (r : List UInt8) : sNums (nums b ++ r, false) = (b.base, b.count, b.prod, b.seq, b.time, (r, false)) := by
  obtain ⟨h1, h2, h3, h4, h5, h6, _⟩ := good_nums h
  have hc : Bd.inR b.count := ⟨by omega, by omega⟩
  have e : nums b ++ r = Bd.bInt b.base ++ (Bd.bInt b.count ++ (Bd.bInt b.prod ++ (Bd.bInt b.seq ++ (Bd.bInt b.time ++ r)))) := by simp [nums]
  unfold sNums
  rw [e]
  simp only [Bd.sInt_of _ (inR_num h1), Bd.sInt_of _ hc, Bd.sInt_of _ (inR_num h2), Bd.sInt_of _ (inR_num h3), Bd.sInt_of _ (inR_num h4)]
/-- A batch's bytes are read as itself. -/
theorem dec_enc {b : Batch} (h : good b = true) : dec (enc b) = some b := by
  obtain ⟨h1, h2, h3, h4, h5, h6, h7, h8, h9⟩ := good_nums h
  have hall := goodRecs_all h9
  simp only [isNum, Bool.and_eq_true, decide_eq_true_eq] at h1
  unfold dec
  rw [enc, Bd.sSign_of, sNums_of h]
  simp only
  rw [sRecs_of b.recs 11 [] [101] (fun x hx => ⟨(hall x hx).1, by have := (hall x hx).2; exact ⟨by omega, by omega⟩⟩) (by omega) (by simp; omega) (fun c hc => by simp at hc; exact hc.symm)]
  simp only [List.nil_append]
  rw [Bd.sSign_of, if_pos]
  simp [Bd.sDone, h]

theorem sInt_was {q : Bd.St} (h : (Bd.sInt q).2.2 = false) : q.2 = false ∧ Bd.inR (Bd.sInt q).1 ∧ q.1 = Bd.bInt (Bd.sInt q).1 ++ (Bd.sInt q).2.1 := by
  obtain ⟨s, b⟩ := q
  cases b with
  | true => exact absurd h (by simp [Bd.sInt])
  | false =>
    cases hr : Bd.rdInt s with
    | none => simp [Bd.sInt, hr] at h
    | some x =>
      obtain ⟨n, r⟩ := x
      obtain ⟨h1, h2⟩ := Bd.rdInt_some hr
      simp only [Bd.sInt, hr]
      exact ⟨trivial, h1, h2⟩
theorem sText_was {m : Int} {q : Bd.St} (h : (Bd.sText m q).2.2 = false) : q.2 = false ∧ ((Bd.sText m q).1.length : Int) ≤ m ∧ q.1 = Bd.bText (Bd.sText m q).1 ++ (Bd.sText m q).2.1 := by
  obtain ⟨s, b⟩ := q
  cases b with
  | true => exact absurd h (by simp [Bd.sText])
  | false =>
    cases hr : Bd.rdText m s with
    | none => simp [Bd.sText, hr] at h
    | some x =>
      obtain ⟨t, r⟩ := x
      obtain ⟨h1, h2⟩ := Bd.rdText_some hr
      simp only [Bd.sText, hr]
      exact ⟨trivial, h1, h2⟩
theorem sSign_was {c : UInt8} {q : Bd.St} (h : (Bd.sSign c q).2 = false) : q.2 = false ∧ q.1 = c :: (Bd.sSign c q).1 := by
  obtain ⟨s, b⟩ := q
  cases b with
  | true => exact absurd h (by simp [Bd.sSign])
  | false =>
    by_cases hc : s.head? = some c
    · cases s with
      | nil => cases hc
      | cons x r =>
        simp at hc
        subst hc
        rw [Bd.sSign_of]
        exact ⟨rfl, rfl⟩
    · rw [Bd.sSign_no hc] at h
      cases h
theorem sRec_was {q : Bd.St} (h : (sRec q).2.2.2 = false) (hm : (sRec q).2.1 = true) : q.2 = false ∧ q.1 = encRec (sRec q).1 ++ (sRec q).2.2.1 := by
  unfold sRec at h hm ⊢
  simp only at h hm ⊢
  obtain ⟨a1, a2⟩ := sSign_was h
  obtain ⟨b1, _, b2⟩ := sInt_was a1
  obtain ⟨c1, _, c2⟩ := sText_was b1
  obtain ⟨d1, _, d2⟩ := sText_was c1
  obtain ⟨e1, _, e2⟩ := sInt_was d1
  obtain ⟨f1, f2⟩ := sSign_was e1
  refine ⟨f1, ?_⟩
  rw [beq_iff_eq] at hm
  rw [f2, e2, d2, c2, b2, a2]
  simp only [encRec]
  rw [← hm]
  simp
theorem sRecs_was : ∀ (n : Nat) (acc : List Rec) (q : Bd.St) (rs : List Rec) (q' : Bd.St), sRecs n acc q = some (rs, q') → q'.2 = false → ∃ l, rs = acc ++ l ∧ q.2 = false ∧ q.1 = encRecs l ++ q'.1 := by
  intro n
  induction n with
  | zero => intro acc q rs q' h; cases h
  | succ n ih =>
    intro acc q rs q' h hq
    rw [sRecs] at h
    split at h
    · split at h
      · rename_i hok
        simp only [Bool.and_eq_true] at hok
        obtain ⟨l, h1, h2, h3⟩ := ih _ _ _ _ h hq
        obtain ⟨g1, g2⟩ := sRec_was h2 hok.1
        refine ⟨(sRec q).1 :: l, by rw [h1]; simp, g1, ?_⟩
        rw [g2, h3]
        simp [encRecs]
      · cases h
    · simp only [Option.some.injEq, Prod.mk.injEq] at h
      obtain ⟨rfl, rfl⟩ := h
      exact ⟨[], by simp, hq, by simp [encRecs]⟩
/-- Bytes that are read are written as themselves. -/
theorem dec_some {s : List UInt8} {b : Batch} (h : dec s = some b) : good b = true ∧ s = enc b := by
  unfold dec at h
  simp only at h
  split at h
  · cases h
  · rename_i rs q hrs
    split at h
    · rename_i hc
      simp only [Bool.and_eq_true, decide_eq_true_eq] at hc
      obtain ⟨hd, hg⟩ := hc
      simp only [Option.some.injEq] at h
      subst h
      refine ⟨hg, ?_⟩
      have hz := (Bd.sDone_iff _).1 hd
      obtain ⟨a1, a2⟩ := sSign_was (c := 101) (q := q) (by rw [hz])
      rw [hz] at a2
      obtain ⟨l, h1, h2, h3⟩ := sRecs_was _ _ _ _ _ hrs a1
      rw [List.nil_append] at h1
      subst h1
      unfold sNums at h2 h3 ⊢
      simp only at h2 h3 ⊢
      obtain ⟨e1, _, e2⟩ := sInt_was h2
      obtain ⟨f1, _, f2⟩ := sInt_was e1
      obtain ⟨g1, _, g2⟩ := sInt_was f1
      obtain ⟨i1, _, i2⟩ := sInt_was g1
      obtain ⟨j1, _, j2⟩ := sInt_was i1
      obtain ⟨k1, k2⟩ := sSign_was j1
      simp only at k2
      generalize Bd.sSign 108 (s, false) = Q at *
      rw [k2, j2, i2, g2, f2, e2, h3, a2]
      simp [enc, nums]
    · cases h
/-- Bytes are read, or not, by what is written. -/
theorem dec_none {s : List UInt8} (h : dec s = none) (b : Batch) (hb : good b = true) : s ≠ enc b := by
  rintro rfl
  rw [dec_enc hb] at h
  cases h
theorem enc_inj {a b : Batch} (ha : good a = true) (hb : good b = true) : enc a = enc b ↔ a = b := by
  refine ⟨fun h => ?_, fun h => by rw [h]⟩
  have h1 := dec_enc ha
  rw [h, dec_enc hb] at h1
  exact (Option.some.inj h1).symm

end Go.Proofs.YtbljbdjmgogknaaGreatDoor.Cr
