/-
  Bd / Cr / Wp / Str / App / Sl: texts of one proof, one behind the other.
  Conditions: none of its own.
-/
import Derived.Test.YtbljbdjmgogknaaGreatDoorZz
import Derived.Lib.ItoaLen
import Derived.Lib.ItoaMem
import Derived.Lib.AtoiAllMem
import Derived.Lib.AtoiAllCases
import Derived.Lib.CutLaws
import Derived.Lib.Strings
import Derived.WalkKit
import Derived.WalkSpells
import Derived.WalkLawsBesides
import Derived.Handy
import Derived.Lib.ConvBytes
import Derived.WalkMore
import Derived.ScopeJumps
import Derived.Laws.AppendOwnNone
import Derived.Deep.MidRow
import Derived.Deep.AppendSrc
import Derived.Deep.Upon
set_option linter.unusedVariables false
set_option linter.unusedSimpArgs false
namespace Go.Proofs.YtbljbdjmgogknaaGreatDoor.Bd
open Go.Lib
def isDig (c : UInt8) : Bool := decide (48 ≤ c.toNat ∧ c.toNat ≤ 57)
theorem isDig_iff {c : UInt8} : isDig c = true ↔ 48 ≤ c.toNat ∧ c.toNat ≤ 57 := by simp [isDig]
def dv (c : UInt8) : Nat := c.toNat % 48
theorem dv_eq {c : UInt8} (h : isDig c = true) : c.toNat = 48 + dv c ∧ dv c ≤ 9 := by
 have := isDig_iff.1 h
 unfold dv
 omega
attribute [irreducible] dv
def val (acc : Nat) : List UInt8 → Nat
 | [] => acc
 | c::r => val (acc * 10 + dv c) r
theorem val_append (a b : List UInt8) (acc : Nat) : val acc (a ++ b) = val (val acc a) b := by
 induction a generalizing acc with
 | nil => rfl
 | cons c r ih => exact ih _
theorem val_ge (l : List UInt8) (acc : Nat) : acc ≤ val acc l := by
 induction l generalizing acc with
 | nil => exact Nat.le_refl acc
 | cons c r ih =>
  have h := ih (acc * 10 + dv c)
  have e : val acc (c::r) = val (acc * 10 + dv c) r := rfl
  rw [e]
  omega
theorem parse_bd {acc d v : Nat} (hg : acc * 10 + d ≤ v) (hv : v < 18446744073709551616) : ¬ 1844674407370955162 ≤ acc ∧ ¬ 18446744073709551616 ≤ acc * 10 + d := by omega
theorem parse_val (l : List UInt8) : ∀ (acc : Nat),(∀ c ∈ l,isDig c = true) → val acc l < 18446744073709551616 → parseUint10 acc l = .ok (val acc l) := by
 induction l with
 | nil => intro acc _ _; rfl
 | cons c r ih =>
  intro acc h hv
  have hc := isDig_iff.1 (h c (by simp))
  have hd := dv_eq (h c (by simp))
  have hg := val_ge r (acc * 10 + dv c)
  have ev : val acc (c::r) = val (acc * 10 + dv c) r := rfl
  rw [ev] at hv ⊢
  obtain ⟨h1,h2⟩ := parse_bd hg hv
  have hs : c.toNat - 48 = dv c := by rw [hd.1,Nat.add_sub_cancel_left]
  have e : parseUint10 acc (c::r) = parseUint10 (acc * 10 + dv c) r := by
   rw [parseUint10,if_pos hc,hs,if_neg h1,if_neg h2]
  rw [e]
  exact ih _ (fun x hx => h x (List.mem_cons_of_mem _ hx)) hv
theorem dec_small {u : Nat} (h : u < 10) : decDigits u = [UInt8.ofNat (48 + u)] := by rw [decDigits,dif_pos h]
theorem dec_big {u : Nat} (h : ¬ u < 10) : decDigits u = decDigits (u / 10) ++ [UInt8.ofNat (48 + u % 10)] := by rw [decDigits,dif_neg h]
theorem dg_toNat {d : Nat} (h : d < 10) : (UInt8.ofNat (48 + d)).toNat = 48 + d := by
 rw [UInt8.toNat_ofNat']; omega
theorem dec_dig (u : Nat) : ∀ c ∈ decDigits u,isDig c = true := by
 induction u using Nat.strongRecOn with
 | _ u ih =>
  by_cases h : u < 10
  ·rw [dec_small h]
   intro c hc
   simp only [List.mem_singleton] at hc
   subst hc
   rw [isDig_iff,dg_toNat h]; omega
  ·rw [dec_big h]
   intro c hc
   rcases List.mem_append.1 hc with hc | hc
   ·exact ih (u / 10) (by omega) c hc
   ·simp only [List.mem_singleton] at hc
    subst hc
    rw [isDig_iff,dg_toNat (by omega)]; omega
theorem dv_of {d : Nat} (h : d < 10) : dv (UInt8.ofNat (48 + d)) = d := by
 have h1 := dg_toNat h
 have h2 := dv_eq (c := UInt8.ofNat (48 + d)) (by rw [isDig_iff,h1]; omega)
 omega
theorem val_one (c : UInt8) (acc : Nat) : val acc [c] = acc * 10 + dv c := rfl
theorem dec_val (u : Nat) : val 0 (decDigits u) = u := by
 induction u using Nat.strongRecOn with
 | _ u ih =>
  by_cases h : u < 10
  ·rw [dec_small h,val_one,dv_of h]; omega
  ·rw [dec_big h,val_append,ih (u / 10) (by omega),val_one,dv_of (by omega)]; omega
theorem dec_ne (u : Nat) : decDigits u ≠ [] := by
 intro h
 have h1 := decDigits_length u
 have h2 := nDigits_pos u
 rw [h] at h1
 simp at h1
 omega
def inR (n : Int) : Prop := -9223372036854775808 ≤ n ∧ n ≤ 9223372036854775807
theorem parseMag_dec {u : Nat} (h : u < 18446744073709551616) : parseMag (decDigits u) = .ok u := by
 rw [parseMag,if_neg (dec_ne u),parse_val _ _ (dec_dig u) (by rw [dec_val]; exact h),dec_val]
theorem atoi_itoa {n : Int} (h : inR n) : atoiAll (itoa n) = .ok n := by
 obtain ⟨h0,h1⟩ := h
 by_cases hn : n < 0
 ·have e : itoa n = 45::decDigits n.natAbs := by rw [itoa,if_pos hn]
  rw [e,atoiAll_minus,parseMag_dec (by omega)]
  unfold signed
  simp only
  rw [if_neg (by omega)]
  congr 1
  omega
 ·have e : itoa n = decDigits n.toNat := by rw [itoa,if_neg hn]
  obtain ⟨c,r,hcr⟩ : ∃ c r,decDigits n.toNat = c::r := by
   cases hd : decDigits n.toNat with
   | nil => exact absurd hd (dec_ne _)
   | cons c r => exact ⟨c,r,rfl⟩
  have hc := isDig_iff.1 (dec_dig n.toNat c (by rw [hcr]; simp))
  have hp := parseMag_dec (u := n.toNat) (by omega)
  rw [e]
  rw [hcr] at hp ⊢
  rw [atoiAll_plain c r (by omega) (by omega),hp]
  unfold signless
  simp only
  rw [if_neg (by omega)]
  congr 1
  omega
theorem itoa_mem {n : Int} {c : UInt8} (h : c ∈ itoa n) : isDig c = true ∨ c = 45 := by
 unfold itoa at h
 split at h
 ·rcases List.mem_cons.1 h with h | h
  ·exact .inr h
  ·exact .inl (dec_dig _ c h)
 ·exact .inl (dec_dig _ c h)
theorem itoa_not {n : Int} {c : UInt8} (h : ¬ (48 ≤ c.toNat ∧ c.toNat ≤ 57)) (h2 : c ≠ 45) : c ∉ itoa n := by
 intro hc
 rcases itoa_mem hc with h3 | h3
 ·exact h (isDig_iff.1 h3)
 ·exact h2 h3
/-! ### Cutting at a byte -/
theorem occ_one (s : List UInt8) (c : UInt8) (i : Nat) : occAt s [c] i = decide (s[i]? = some c) := by
 unfold occAt
 rw [← List.head?_drop]
 cases s.drop i with
 | nil => rfl
 | cons x r =>
  simp only [List.isPrefixOf,Bool.and_true,List.head?_cons,Option.some.injEq]
  by_cases h : c = x
  ·subst h; simp
  ·have h' : ¬ x = c := fun e => h e.symm
   simp [h,h']
theorem cut_hit {a b : List UInt8} {c : UInt8} (h : c ∉ a) : cut (a ++ c::b) [c] = (a,b,true) := by
 have hi : index (a ++ c::b) [c] = a.length := by
  refine index_first (by simp) (by rw [occ_one]; simp) (fun j hj => ?_)
  rw [occ_one,decide_eq_false_iff_not]
  intro e
  rw [List.getElem?_append_left hj] at e
  exact h (List.mem_of_getElem? e)
 unfold cut
 rw [hi,if_pos (by omega)]
 simp
theorem cut_miss {s : List UInt8} {c : UInt8} (h : c ∉ s) : cut s [c] = (s,[],false) := by
 have hi : index s [c] = -1 := by
  refine index_none (fun j hj => ?_)
  rw [occ_one,decide_eq_false_iff_not]
  intro e
  exact h (List.mem_of_getElem? e)
 unfold cut
 rw [hi,if_neg (by decide)]
theorem cut_cases (s : List UInt8) (c : UInt8) : (c ∉ s ∧ cut s [c] = (s,[],false)) ∨ ∃ a b,c ∉ a ∧ s = a ++ c::b ∧ cut s [c] = (a,b,true) := by
 by_cases h : c ∈ s
 ·obtain ⟨a,b,rfl,ha⟩ := List.eq_append_cons_of_mem h
  exact .inr ⟨a,b,ha,rfl,cut_hit ha⟩
 ·exact .inl ⟨h,cut_miss h⟩
theorem pre_one (s : List UInt8) (c : UInt8) : hasPrefix s [c] = decide (s.head? = some c) := by
 have := occ_one s c 0
 unfold occAt at this
 rw [List.drop_zero] at this
 rw [hasPrefix,this,List.head?_eq_getElem?]
theorem trim_hit (s : List UInt8) (c : UInt8) : trimPrefix (c::s) [c] = s := by
 have h : hasPrefix (c::s) [c] = true := by rw [pre_one]; simp
 rw [trimPrefix,if_pos h]
 rfl
theorem trim_miss {s : List UInt8} {c : UInt8} (h : hasPrefix s [c] = false) : trimPrefix s [c] = s := by rw [trimPrefix,if_neg (by simp [h])]
/-! ### Numbers and texts written -/
def bInt (n : Int) : List UInt8 := 105::(itoa n ++ [101])
def bText (t : List UInt8) : List UInt8 := itoa (t.length : Int) ++ 58::t
def rdInt (s : List UInt8) : Option (Int × List UInt8) :=
 match atoiAll (trimPrefix (cut s [101]).1 [105]) with
 | .ok n => if (cut s [101]).2.2 && hasPrefix (cut s [101]).1 [105] && decide (itoa n = trimPrefix (cut s [101]).1 [105]) then some (n,(cut s [101]).2.1) else none
 | _ => none
def rdText (most : Int) (s : List UInt8) : Option (List UInt8 × List UInt8) :=
 match atoiAll (cut s [58]).1 with
 | .ok n => if (cut s [58]).2.2 && decide (itoa n = (cut s [58]).1) && decide (0 ≤ n) && decide (n ≤ most) && decide (n ≤ ((cut s [58]).2.1.length : Int)) then some ((cut s [58]).2.1.take n.toNat,(cut s [58]).2.1.drop n.toNat) else none
 | _ => none
theorem cut_int (n : Int) (r : List UInt8) : cut (bInt n ++ r) [101] = (105::itoa n,r,true) := by
 have e : bInt n ++ r = (105::itoa n) ++ 101::r := by simp [bInt]
 rw [e]
 refine cut_hit ?_
 intro h
 rcases List.mem_cons.1 h with h | h
 ·cases h
 ·exact itoa_not (by decide) (by decide) h
theorem rdInt_of {n : Int} (r : List UInt8) (h : inR n) : rdInt (bInt n ++ r) = some (n,r) := by
 unfold rdInt
 rw [cut_int]
 simp only
 rw [trim_hit,atoi_itoa h]
 simp [pre_one]
theorem rdInt_some {s : List UInt8} {n : Int} {r : List UInt8} (h : rdInt s = some (n,r)) : inR n ∧ s = bInt n ++ r := by
 unfold rdInt at h
 rcases cut_cases s 101 with ⟨_,e⟩ | ⟨a,b,ha,rfl,e⟩
 ·rw [e] at h
  simp only at h
  split at h
  ·simp at h
  ·cases h
 ·rw [e] at h
  simp only at h
  split at h
  ·rename_i m hm
   split at h
   ·rename_i hc
    simp only [Bool.true_and,Bool.and_eq_true,decide_eq_true_eq] at hc
    obtain ⟨hp,hi⟩ := hc
    simp only [Option.some.injEq,Prod.mk.injEq] at h
    obtain ⟨rfl,rfl⟩ := h
    rw [pre_one,decide_eq_true_eq] at hp
    obtain ⟨a',rfl⟩ : ∃ a',a = 105::a' := by
     cases a with
     | nil => simp at hp
     | cons x y => simp at hp; exact ⟨y,by rw [hp]⟩
    rw [trim_hit] at hm hi
    refine ⟨atoiAll_bounds hm,?_⟩
    rw [bInt,hi]
    simp
   ·cases h
  ·cases h
theorem cut_text (t r : List UInt8) : cut (bText t ++ r) [58] = (itoa (t.length : Int),t ++ r,true) := by
 have e : bText t ++ r = itoa (t.length : Int) ++ 58::(t ++ r) := by simp [bText]
 rw [e]
 exact cut_hit (itoa_not (by decide) (by decide))
theorem rdText_of {most : Int} (t r : List UInt8) (h : (t.length : Int) ≤ most) (hl : t.length ≤ 9223372036854775807) : rdText most (bText t ++ r) = some (t,r) := by
 unfold rdText
 rw [cut_text]
 simp only
 rw [atoi_itoa (by unfold inR; omega)]
 simp only [List.length_append]
 rw [if_pos (by simp; omega)]
 simp
theorem rdText_some {most : Int} {s t r : List UInt8} (h : rdText most s = some (t,r)) : (t.length : Int) ≤ most ∧ s = bText t ++ r := by
 unfold rdText at h
 rcases cut_cases s 58 with ⟨_,e⟩ | ⟨a,b,ha,rfl,e⟩
 ·rw [e] at h
  simp only at h
  split at h
  ·simp at h
  ·cases h
 ·rw [e] at h
  simp only at h
  split at h
  ·rename_i m hm
   split at h
   ·rename_i hc
    simp only [Bool.true_and,Bool.and_eq_true,decide_eq_true_eq] at hc
    obtain ⟨⟨⟨hi,h0⟩,h1⟩,h2⟩ := hc
    simp only [Option.some.injEq,Prod.mk.injEq] at h
    obtain ⟨rfl,rfl⟩ := h
    have hl : ((b.take m.toNat).length : Int) = m := by rw [List.length_take]; omega
    refine ⟨by omega,?_⟩
    rw [bText,hl,hi]
    simp
   ·cases h
  ·cases h
/-! ### A reader: what is left, and whether it went wrong -/
abbrev St := List UInt8 × Bool
def sInt (q : St) : Int × St :=
 if q.2 then (0,q) else match rdInt q.1 with
  | some (n,r) => (n,(r,false))
  | none => (0,(q.1,true))
def sText (most : Int) (q : St) : List UInt8 × St :=
 if q.2 then ([],q) else match rdText most q.1 with
  | some (t,r) => (t,(r,false))
  | none => ([],(q.1,true))
def sSign (c : UInt8) (q : St) : St := if q.2 then q else (trimPrefix q.1 [c],!hasPrefix q.1 [c])
def sMore (q : St) : Bool := !q.2 && !q.1.isEmpty && !(q.1.head? == some 101)
def sDone (q : St) : Int := if q.2 || !q.1.isEmpty then 3 else 0
theorem sInt_of {n : Int} (r : List UInt8) (h : inR n) : sInt (bInt n ++ r,false) = (n,(r,false)) := by simp [sInt,rdInt_of r h]
theorem sText_of {most : Int} (t r : List UInt8) (h : (t.length : Int) ≤ most) (hl : t.length ≤ 9223372036854775807) : sText most (bText t ++ r,false) = (t,(r,false)) := by simp [sText,rdText_of t r h hl]
theorem sSign_of (c : UInt8) (r : List UInt8) : sSign c (c::r,false) = (r,false) := by
 have h : hasPrefix (c::r) [c] = true := by rw [pre_one]; simp
 simp [sSign,trim_hit,h]
theorem sSign_no {c : UInt8} {s : List UInt8} (h : s.head? ≠ some c) : sSign c (s,false) = (s,true) := by
 have hp : hasPrefix s [c] = false := by rw [pre_one]; simp [h]
 simp [sSign,trim_miss hp,hp]
theorem sMore_int (n : Int) (r : List UInt8) : sMore (bInt n ++ r,false) = true := by simp [sMore,bInt]
end Go.Proofs.YtbljbdjmgogknaaGreatDoor.Bd
namespace Go.Proofs.YtbljbdjmgogknaaGreatDoor.Cr
structure Rec where
 off : Int
 key : List UInt8
 val : List UInt8
 gone : Bool
structure Batch where
 base : Int
 count : Int
 prod : Int
 seq : Int
 time : Int
 recs : List Rec
def recEq (a b : Rec) : Bool := a.off == b.off && a.key == b.key && a.val == b.val && a.gone == b.gone
theorem recEq_iff {a b : Rec} : recEq a b = true ↔ a = b := by
 cases a; cases b
 simp [recEq,and_assoc]
def recsEq : List Rec → List Rec → Bool
 | [],[] => true
 | a::l,b::r => recEq a b && recsEq l r
 | _,_ => false
theorem recsEq_iff {l r : List Rec} : recsEq l r = true ↔ l = r := by
 induction l generalizing r with
 | nil => cases r <;> simp [recsEq]
 | cons a l ih =>
  cases r with
  | nil => simp [recsEq]
  | cons b r => simp [recsEq,recEq_iff,ih]
def same (a b : Batch) : Bool := a.base == b.base && a.count == b.count && a.prod == b.prod && a.seq == b.seq && a.time == b.time && recsEq a.recs b.recs
theorem same_iff {a b : Batch} : same a b = true ↔ a = b := by
 cases a; cases b
 simp [same,recsEq_iff,and_assoc]
def isNum (n : Int) : Bool := decide (0 ≤ n) && decide (n ≤ 1099511627776)
def isRec (x : Rec) : Bool := decide (x.key.length ≤ 16) && (decide (x.val.length ≤ 64) && (!x.gone || x.val.isEmpty))
def goodRecs (hi : Int) : Int → List Rec → Bool
 | _,[] => true
 | next,x::r => isRec x && (decide (next ≤ x.off) && (decide (x.off < hi) && goodRecs hi (x.off + 1) r))
def good (b : Batch) : Bool :=
 isNum b.base && (isNum b.prod && (isNum b.seq && (isNum b.time && (decide (1 ≤ b.count) && (decide (b.count ≤ 8) && (decide (b.base ≤ 1099511627776 - b.count) &&
  (decide ((b.recs.length : Int) ≤ b.count) && goodRecs (b.base + b.count) b.base b.recs)))))))
def fits (l : List Rec) : Bool := decide (1 ≤ l.length) && (decide (l.length ≤ 8) && l.all isRec)
def flag (b : Bool) : Int := if b then 1 else 0
def encRec (x : Rec) : List UInt8 := 108::(Bd.bInt x.off ++ (Bd.bText x.key ++ (Bd.bText x.val ++ (Bd.bInt (flag x.gone) ++ [101]))))
def encRecs (l : List Rec) : List UInt8 := (l.map encRec).flatten
def nums (b : Batch) : List UInt8 := Bd.bInt b.base ++ (Bd.bInt b.count ++ (Bd.bInt b.prod ++ (Bd.bInt b.seq ++ Bd.bInt b.time)))
def enc (b : Batch) : List UInt8 := 108::(nums b ++ (encRecs b.recs ++ [101]))
/-! ### Reading -/
def sRec (q : Bd.St) : Rec × Bool × Bd.St :=
 let q1 := Bd.sSign 108 q
 let o := Bd.sInt q1
 let k := Bd.sText 16 o.2
 let v := Bd.sText 64 k.2
 let g := Bd.sInt v.2
 let q6 := Bd.sSign 101 g.2
 (⟨o.1,k.1,v.1,g.1 == 1⟩,g.1 == flag (g.1 == 1),q6)
def sRecs : Nat → List Rec → Bd.St → Option (List Rec × Bd.St)
 | 0,_,_ => none
 | n + 1,acc,q => if Bd.sMore q then (if (sRec q).2.1 && decide (acc.length ≤ 8) then sRecs n (acc ++ [(sRec q).1]) (sRec q).2.2 else none) else some (acc,q)
def sNums (q : Bd.St) : Int × Int × Int × Int × Int × Bd.St :=
 let a := Bd.sInt q
 let b := Bd.sInt a.2
 let c := Bd.sInt b.2
 let d := Bd.sInt c.2
 let e := Bd.sInt d.2
 (a.1,b.1,c.1,d.1,e.1,e.2)
def dec (s : List UInt8) : Option Batch :=
 let m := sNums (Bd.sSign 108 (s,false))
 match sRecs 11 [] m.2.2.2.2.2 with
 | none => none
 | some (rs,q) => if Bd.sDone (Bd.sSign 101 q) = 0 && good ⟨m.1,m.2.1,m.2.2.1,m.2.2.2.1,m.2.2.2.2.1,rs⟩ then some ⟨m.1,m.2.1,m.2.2.1,m.2.2.2.1,m.2.2.2.2.1,rs⟩ else none
theorem inR_num {n : Int} (h : isNum n = true) : Bd.inR n := by
 simp only [isNum,Bool.and_eq_true,decide_eq_true_eq] at h
 exact ⟨by omega,by omega⟩
theorem inR_flag (b : Bool) : Bd.inR (flag b) := by cases b <;> exact ⟨by decide,by decide⟩
theorem flag_gone (b : Bool) : (flag b == 1) = b := by cases b <;> rfl
theorem sRec_of {x : Rec} (hx : isRec x = true) (ho : Bd.inR x.off) (r : List UInt8) : sRec (encRec x ++ r,false) = (x,true,(r,false)) := by
 simp only [isRec,Bool.and_eq_true,decide_eq_true_eq] at hx
 obtain ⟨h1,h2,_⟩ := hx
 have e : encRec x ++ r = 108::(Bd.bInt x.off ++ (Bd.bText x.key ++ (Bd.bText x.val ++ (Bd.bInt (flag x.gone) ++ (101::r))))) := by
  simp [encRec]
 unfold sRec
 rw [e,Bd.sSign_of]
 simp only [Bd.sInt_of _ ho,Bd.sText_of (most := 16) _ _ (show (x.key.length : Int) ≤ 16 by omega) (by omega),Bd.sText_of (most := 64) _ _ (show (x.val.length : Int) ≤ 64 by omega) (by omega),Bd.sInt_of _ (inR_flag _),Bd.sSign_of,flag_gone]
 simp
theorem sRecs_of (l : List Rec) : ∀ (n : Nat) (acc : List Rec) (r : List UInt8),(∀ x ∈ l,isRec x = true ∧ Bd.inR x.off) → l.length < n → acc.length + l.length ≤ 9 → (∀ c,r.head? = some c → c = 101) →
  sRecs n acc (encRecs l ++ r,false) = some (acc ++ l,(r,false)) := by
 induction l with
 | nil =>
  intro n acc r _ hn _ hr
  obtain ⟨m,rfl⟩ : ∃ m,n = m + 1 := ⟨n - 1,by simp at hn; omega⟩
  have hm : Bd.sMore (r,false) = false := by
   cases r with
   | nil => rfl
   | cons c r =>
    rw [hr c rfl]
    simp [Bd.sMore]
  simp [sRecs,encRecs,hm]
 | cons x l ih =>
  intro n acc r hx hn ha hr
  obtain ⟨m,rfl⟩ : ∃ m,n = m + 1 := ⟨n - 1,by simp at hn; omega⟩
  have e : encRecs (x::l) ++ r = encRec x ++ (encRecs l ++ r) := by simp [encRecs]
  have hx1 := hx x (by simp)
  have hm : Bd.sMore (encRec x ++ (encRecs l ++ r),false) = true := by
   simp [Bd.sMore,encRec]
  simp only [List.length_cons] at hn ha
  rw [sRecs,e,hm,if_pos rfl,sRec_of hx1.1 hx1.2]
  simp only [Bool.true_and]
  rw [if_pos (decide_eq_true (by omega)),ih m (acc ++ [x]) r (fun y hy => hx y (by simp [hy])) (by omega) (by rw [List.length_append,List.length_singleton]; omega) hr]
  simp
theorem goodRecs_all {hi : Int} : ∀ {l : List Rec} {next : Int},goodRecs hi next l = true → ∀ x ∈ l,isRec x = true ∧ next ≤ x.off ∧ x.off < hi := by
 intro l
 induction l with
 | nil => intro _ _ x hx; cases hx
 | cons y l ih =>
  intro next h x hx
  simp only [goodRecs,Bool.and_eq_true,decide_eq_true_eq] at h
  obtain ⟨h1,h2,h3,h4⟩ := h
  rcases List.mem_cons.1 hx with rfl | hx
  ·exact ⟨h1,h2,h3⟩
  ·obtain ⟨g1,g2,g3⟩ := ih h4 x hx
   exact ⟨g1,by omega,g3⟩
theorem good_nums {b : Batch} (h : good b = true) : isNum b.base = true ∧ isNum b.prod = true ∧ isNum b.seq = true ∧ isNum b.time = true ∧ 1 ≤ b.count ∧ b.count ≤ 8 ∧ b.base ≤ 1099511627776 - b.count ∧ (b.recs.length : Int) ≤ b.count ∧ goodRecs (b.base + b.count) b.base b.recs = true := by
 simpa only [good,Bool.and_eq_true,decide_eq_true_eq] using h
theorem sNums_of {b : Batch} (h : good b = true) (r : List UInt8) : sNums (nums b ++ r,false) = (b.base,b.count,b.prod,b.seq,b.time,(r,false)) := by
 obtain ⟨h1,h2,h3,h4,h5,h6,_⟩ := good_nums h
 have hc : Bd.inR b.count := ⟨by omega,by omega⟩
 have e : nums b ++ r = Bd.bInt b.base ++ (Bd.bInt b.count ++ (Bd.bInt b.prod ++ (Bd.bInt b.seq ++ (Bd.bInt b.time ++ r)))) := by simp [nums]
 unfold sNums
 rw [e]
 simp only [Bd.sInt_of _ (inR_num h1),Bd.sInt_of _ hc,Bd.sInt_of _ (inR_num h2),Bd.sInt_of _ (inR_num h3),Bd.sInt_of _ (inR_num h4)]
theorem dec_enc {b : Batch} (h : good b = true) : dec (enc b) = some b := by
 obtain ⟨h1,h2,h3,h4,h5,h6,h7,h8,h9⟩ := good_nums h
 have hall := goodRecs_all h9
 simp only [isNum,Bool.and_eq_true,decide_eq_true_eq] at h1
 unfold dec
 rw [enc,Bd.sSign_of,sNums_of h]
 simp only
 rw [sRecs_of b.recs 11 [] [101] (fun x hx => ⟨(hall x hx).1,by have := (hall x hx).2; exact ⟨by omega,by omega⟩⟩) (by omega) (by simp; omega) (fun c hc => by simp at hc; exact hc.symm)]
 simp only [List.nil_append]
 rw [Bd.sSign_of,if_pos]
 simp [Bd.sDone,h]
theorem sInt_was {q : Bd.St} (h : (Bd.sInt q).2.2 = false) : q.2 = false ∧ Bd.inR (Bd.sInt q).1 ∧ q.1 = Bd.bInt (Bd.sInt q).1 ++ (Bd.sInt q).2.1 := by
 obtain ⟨s,b⟩ := q
 cases b with
 | true => exact absurd h (by simp [Bd.sInt])
 | false =>
  cases hr : Bd.rdInt s with
  | none => simp [Bd.sInt,hr] at h
  | some x =>
   obtain ⟨n,r⟩ := x
   obtain ⟨h1,h2⟩ := Bd.rdInt_some hr
   simp only [Bd.sInt,hr]
   exact ⟨trivial,h1,h2⟩
theorem sText_was {m : Int} {q : Bd.St} (h : (Bd.sText m q).2.2 = false) : q.2 = false ∧ ((Bd.sText m q).1.length : Int) ≤ m ∧ q.1 = Bd.bText (Bd.sText m q).1 ++ (Bd.sText m q).2.1 := by
 obtain ⟨s,b⟩ := q
 cases b with
 | true => exact absurd h (by simp [Bd.sText])
 | false =>
  cases hr : Bd.rdText m s with
  | none => simp [Bd.sText,hr] at h
  | some x =>
   obtain ⟨t,r⟩ := x
   obtain ⟨h1,h2⟩ := Bd.rdText_some hr
   simp only [Bd.sText,hr]
   exact ⟨trivial,h1,h2⟩
theorem sSign_was {c : UInt8} {q : Bd.St} (h : (Bd.sSign c q).2 = false) : q.2 = false ∧ q.1 = c::(Bd.sSign c q).1 := by
 obtain ⟨s,b⟩ := q
 cases b with
 | true => exact absurd h (by simp [Bd.sSign])
 | false =>
  by_cases hc : s.head? = some c
  ·cases s with
   | nil => cases hc
   | cons x r =>
    simp at hc
    subst hc
    rw [Bd.sSign_of]
    exact ⟨rfl,rfl⟩
  ·rw [Bd.sSign_no hc] at h
   cases h
end Go.Proofs.YtbljbdjmgogknaaGreatDoor.Cr
namespace Go.Proofs.YtbljbdjmgogknaaGreatDoor.Wi
structure Req where
 client : Int
 n : Int
 kind : Int
 part : Int
 seq : Int
 off : Int
 max : Int
 gen : Int
 group : List UInt8
 member : List UInt8
 recs : List Cr.Rec
structure Resp where
 client : Int
 n : Int
 code : Int
 off : Int
 high : Int
 gen : Int
 parts : List Int
 recs : List Cr.Rec
abbrev Slot := Int × Int × Int
abbrev Seen := Int × List Slot
structure Msg where
 kind : Int
 frm : Int
 «to» : Int
 part : Int
 ep : Int
 off : Int
 high : Int
 life : Int
 pep : Int
 chain : List Int
 learner : Int
 lives : List (Int × Int)
 batch : Cr.Batch
 table : List Seen
 req : Req
 resp : Resp
def reqNums (a b : Req) : Bool := decide (a.client = b.client) && (decide (a.n = b.n) && (decide (a.kind = b.kind) && (decide (a.part = b.part) && (decide (a.seq = b.seq) && (decide (a.off = b.off) && (decide (a.max = b.max) && decide (a.gen = b.gen)))))))
def reqEq (a b : Req) : Bool := reqNums a b && (decide (a.group = b.group) && (decide (a.member = b.member) && Cr.recsEq a.recs b.recs))
theorem reqEq_iff {a b : Req} : reqEq a b = true ↔ a = b := by
 cases a; cases b
 simp [reqEq,reqNums,Cr.recsEq_iff,and_assoc]
def respNums (a b : Resp) : Bool := decide (a.client = b.client) && (decide (a.n = b.n) && (decide (a.code = b.code) && (decide (a.off = b.off) && (decide (a.high = b.high) && decide (a.gen = b.gen)))))
def respEq (a b : Resp) : Bool := respNums a b && (decide (a.parts = b.parts) && Cr.recsEq a.recs b.recs)
theorem respEq_iff {a b : Resp} : respEq a b = true ↔ a = b := by
 cases a; cases b
 simp [respEq,respNums,Cr.recsEq_iff,and_assoc]
def nums (a b : Msg) : Bool := decide (a.kind = b.kind) && (decide (a.frm = b.frm) && (decide (a.to = b.to) && (decide (a.part = b.part) && (decide (a.ep = b.ep) && (decide (a.off = b.off) && (decide (a.high = b.high) && decide (a.life = b.life)))))))
def places (a b : Msg) : Bool := decide (a.pep = b.pep) && (decide (a.learner = b.learner) && (decide (a.chain = b.chain) && decide (a.lives = b.lives)))
def same (a b : Msg) : Bool := nums a b && (places a b && (Cr.same a.batch b.batch && (decide (a.table = b.table) && (reqEq a.req b.req && respEq a.resp b.resp))))
theorem same_iff {a b : Msg} : same a b = true ↔ a = b := by
 cases a; cases b
 simp [same,nums,places,Cr.same_iff,reqEq_iff,respEq_iff]
 constructor <;> intro h <;> simp_all
theorem same_refl (a : Msg) : same a a = true := same_iff.2 rfl
def inB (n low high : Int) : Bool := decide (low ≤ n) && decide (n ≤ high)
def unitB (n : Int) : Bool := inB n 0 5 || inB n 11 14
def areB (low high : Int) (l : List Int) : Bool := l.all fun n => inB n low high
def zReq : Req := ⟨0,0,0,0,0,0,0,0,[],[],[]⟩
def zResp : Resp := ⟨0,0,0,0,0,0,[],[]⟩
def zBatch : Cr.Batch := ⟨0,0,0,0,0,[]⟩
def only (m : Msg) : Msg :=
 {kind := m.kind,frm := m.frm,«to» := m.to
  part := if 4 ≤ m.kind then m.part else 0
  ep := if 4 ≤ m.kind then m.ep else 0
  off := if m.kind = 6 ∨ m.kind = 8 ∨ m.kind = 9 then m.off else 0
  high := if m.kind = 6 then m.high else 0
  life := if m.kind = 3 then m.life else 0
  pep := if m.kind = 4 then m.pep else 0
  chain := if m.kind = 4 then m.chain else []
  learner := if m.kind = 4 then m.learner else 0
  lives := if m.kind = 4 then m.lives else []
  batch := if m.kind = 5 then m.batch else zBatch
  table := if m.kind = 8 then m.table else []
  req := if m.kind = 1 ∨ m.kind = 7 then m.req else zReq
  resp := if m.kind = 2 then m.resp else zResp }
theorem eq_step {α : Type} [DecidableEq α] {l r : List α} {k : Nat} {x y : α} (hx : l[k]? = some x) (hy : r[k]? = some y) : decide (l.drop k = r.drop k) = (decide (x = y) && decide (l.drop (k + 1) = r.drop (k + 1))) := by
 obtain ⟨hk,rfl⟩ := List.getElem?_eq_some_iff.1 hx
 obtain ⟨hk2,rfl⟩ := List.getElem?_eq_some_iff.1 hy
 rw [List.drop_eq_getElem_cons hk,List.drop_eq_getElem_cons hk2,decide_eq_decide.2 (List.cons_eq_cons (a := l[k]) (b := r[k]) (l := l.drop (k + 1)) (l' := r.drop (k + 1))),Bool.decide_and]
theorem eq_len {α : Type} [DecidableEq α] {l r : List α} (h : l.length ≠ r.length) : decide (l = r) = false := decide_eq_false fun e => h (congrArg List.length e)
theorem eq_end {α : Type} [DecidableEq α] {l r : List α} (h : l.length = r.length) : decide (l.drop l.length = r.drop l.length) = true := by
 rw [List.drop_length,h,List.drop_length]
 rfl
end Go.Proofs.YtbljbdjmgogknaaGreatDoor.Wi
namespace Go.Proofs.YtbljbdjmgogknaaGreatDoor
open Go.RowKit
abbrev bs (l : List UInt8) : ByteArray := ⟨l.toArray⟩
theorem bs_extract (l : List UInt8) (i j : Nat) : (⟨l.toArray⟩ : ByteArray).extract i j = ⟨((l.take j).drop i).toArray⟩ := by
 apply ByteArray.ext
 simp [ByteArray.data_extract,List.extract_toArray,List.extract,List.drop_take]
theorem bs_append (a b : List UInt8) : (⟨a.toArray⟩ : ByteArray) ++ ⟨b.toArray⟩ = ⟨(a ++ b).toArray⟩ := by
 apply ByteArray.ext
 simp [ByteArray.data_append]
theorem bs_getD (l : List UInt8) (k : Nat) (h : k < (⟨l.toArray⟩ : ByteArray).size) : (⟨l.toArray⟩ : ByteArray)[k]'h = l.getD k 0 := by
 have hk : k < l.length := h
 simp [List.getD,hk]; rfl
attribute [go_sem] bs_extract bs_append
section
variable {P : Program}
theorem str_at (l : List UInt8) (k : Nat) (i : Int) (hi : i = k) (h : k < l.length) (t : TypeId) (ht : P.underlying t = some .string) (w : World) :
  (Instr.index t (.string ⟨l.toArray⟩) (.int .i64 i)).run P w = .ok (.int .u8 (l.getD k 0).toNat) w := by
 subst hi
 have hk : k < (⟨l.toArray⟩ : ByteArray).size := h
 have hb := bs_getD l k hk
 generalize l.getD k 0 = b at hb
 simp [go_sem,ht,h,hb]
theorem str_from (l : List UInt8) (k : Nat) (i : Int) (hi : i = k) (h : k ≤ l.length) (t : TypeId) (kk : IntKind) (ht : P.underlying t = some .string) (w : World) :
  (Instr.slice t (.string ⟨l.toArray⟩) (some (.int kk i)) none none).run P w = .ok (.string ⟨(l.drop k).toArray⟩) w := by
 subst hi
 rw [run_slice_string_l (P := P) w t ⟨l.toArray⟩ ht kk (k : Int) (by omega) (by show (k : Int) ≤ (l.length : Int); omega),bs_extract,Int.toNat_natCast]
 have e : (⟨l.toArray⟩ : ByteArray).size = l.length := rfl
 rw [e,List.take_length]
theorem str_cut (l : List UInt8) (k m : Nat) (i j : Int) (ki kj : IntKind) (hi : i = k) (hj : j = m) (h : k ≤ m) (h2 : m ≤ l.length) (t : TypeId) (ht : P.underlying t = some .string) (w : World) :
  (Instr.slice t (.string ⟨l.toArray⟩) (some (.int ki i)) (some (.int kj j)) none).run P w = .ok (.string ⟨((l.take m).drop k).toArray⟩) w := by
 subst hi hj
 rw [run_slice_string (P := P) w t ⟨l.toArray⟩ ki kj k m ht (by omega) (by omega) (by show (m : Int) ≤ (l.length : Int); omega),bs_extract,Int.toNat_natCast,Int.toNat_natCast]
theorem str_to (l : List UInt8) (m : Nat) (j : Int) (kj : IntKind) (hj : j = m) (h2 : m ≤ l.length) (t : TypeId) (ht : P.underlying t = some .string) (w : World) :
  (Instr.slice t (.string ⟨l.toArray⟩) none (some (.int kj j)) none).run P w = .ok (.string ⟨(l.take m).toArray⟩) w := by
 subst hj
 rw [run_slice_string_h (P := P) w t ⟨l.toArray⟩ ht kj m (by omega) (by show (m : Int) ≤ (l.length : Int); omega),bs_extract,Int.toNat_natCast,List.drop_zero]
end
theorem below_bytesWorld (w : World) (e : TypeId) (s : ByteArray) : Below w.heap.size w (Lib.bytesWorld w e s) :=
 ⟨rfl,rfl,rfl,by rw [Lib.bytesWorld_size]; omega,fun k hk => Lib.bytesWorld_at_old w e s k hk⟩
theorem ret_int {k : IntKind} {a b : Int} (h : a = b) : Ending.returned (.int k a) = .returned (.int k b) := by rw [h]
theorem ret_str {a b : ByteArray} (h : a = b) : Ending.returned (.string a) = .returned (.string b) := by rw [h]
theorem below_drewN {B : Nat} {w w' : World} (h : Below B w w') (n : Nat) : Below B w (w'.drewN n) := h.trans ⟨rfl,rfl,rfl,Nat.le_refl _,fun _ _ => rfl⟩
theorem bt {a b c : World} (h : Below a.heap.size a b) (k : Below b.heap.size b c) : Below a.heap.size a c := h.trans (k.mono h.size)
theorem bd {a b : World} (h : Below a.drew.heap.size a.drew b) : Below a.heap.size a b := (Below.refl a.heap.size a).drew.trans h
theorem wp_scope_fwd {P : Program} {a : Act} {w : World} {Q : Exit → Act → World → Prop} {c rest : Code} (l : Nat) (hf : findLabel c l = some rest)
  (first : c.wp P (Exit.jump l (fun a w => rest.wp P (Exit.noGoto Q) a w) Q) a w) : (Code.scope c).wp P Q a w := by
 refine wp_scope_jumps l _ (fun _ _ => 0) hf first (fun a w hJ => wp_mono hJ ?_)
 intro e a w h
 cases e with
 | goto l' => exact absurd h (by simp [Exit.noGoto])
 | normal => exact h
 | exit id => exact h
 | ret => exact h
 | panic ch => exact h
 | outgrown => exact h
open Go.RowKit
def SrcIs (w : World) (size : Nat) (sv : Value) (m : Nat) (ys : List Value) : Prop :=
 (sv = .slice none 0 0 ∧ m = 0 ∧ ys = []) ∨
  ∃ ad c,sv = .slice (some ad) m c ∧ ys.length = m * size ∧ ∀ j u,ys[j]? = some u → w.cell? (ad.add j) = some u
theorem SrcIs.ofOwn {w : World} {base : Nat} {e : TypeId} {size : Nat} {v : Value} {n : Nat} {xs : List Value} (h : w.ownsRow base e size v n xs) : SrcIs w size v n xs := by
 have hh := h
 rcases h.2 with ⟨rfl,rfl⟩ | ⟨g,cap,cur,rfl,hB,hg,hn,hm,hs,ht⟩
 ·exact .inl ⟨rfl,rfl,List.eq_nil_of_length_eq_zero (by simpa using h.1)⟩
 ·exact .inr ⟨_,cap,rfl,h.1,hh.cells (g := g) rfl⟩
section
variable {P : Program} {w : World}
end
theorem ownsRow_below {w w' : World} {base : Nat} {e : TypeId} {size : Nat} {v : Value} {n : Nat} {xs : List Value} (h : w.ownsRow base e size v n xs) (hb : Below w.heap.size w w') : w'.ownsRow base e size v n xs :=
 World.ownsRow.kept (row := none) h ⟨hb.os,hb.tape,hb.output,hb.size,fun k hk _ => hb.block k hk⟩ (by cases hv : v.ownBlock <;> simp)
theorem SrcIs.grown {w w' : World} {size : Nat} {sv : Value} {m : Nat} {ys : List Value} {row : Option Nat} (h : SrcIs w size sv m ys) (hg : w.grownBy w' row) (hr : sv.ownBlock = none ∨ sv.ownBlock ≠ row) : SrcIs w' size sv m ys := by
 rcases h with h | ⟨ad,c,rfl,hl,hc⟩
 ·exact .inl h
 ·refine .inr ⟨ad,c,rfl,hl,fun j u hu => hg.cell (hc j u hu) ?_⟩
  have e : (ad.add j).block = ad.block := by unfold Addr.add; split <;> rfl
  rw [e]
  simpa [Value.ownBlock] using hr
theorem slice_to {P : Program} (t e : TypeId) (i : TypeInfo) (ht : P.underlying t = some (.slice e)) (hi : P.info? e = some i) (a : Option Addr) (len cap k : Nat) (j : Int) (kk : IntKind) (hj : j = k) (hk : k ≤ cap)
  (ha : a = none ∨ ∃ b off,a = some ⟨b,off,none⟩) (w : World) : (Instr.slice t (.slice a len cap) none (some (.int kk j)) none).run P w = .ok (.slice a k cap) w := by
 subst hj
 have he : P.elem t = e := by simp [Program.elem,ht]
 rw [run_slice_h (P := P) w t a len cap (by rw [he]; exact ht) kk (k : Int) (by omega) (by omega),he]
 rcases ha with rfl | ⟨b,off,rfl⟩ <;> simp [sizeOf,typeInfo,hi,sliced,Addr.add]
open Go.RowKit
structure Keeps (S : Nat → Prop) (w w' : World) : Prop where
 os : w'.os = w.os
 tape : w'.tape = w.tape
 output : w'.output = w.output
 size : w.heap.size ≤ w'.heap.size
 block : ∀ k,k < w.heap.size → ¬ S k → w'.heap[k]? = w.heap[k]?
theorem Keeps.refl (S : Nat → Prop) (w : World) : Keeps S w w := ⟨rfl,rfl,rfl,Nat.le_refl _,fun _ _ _ => rfl⟩
theorem Keeps.trans {S : Nat → Prop} {a b c : World} (h : Keeps S a b) (k : Keeps S b c) : Keeps S a c :=
 ⟨k.os.trans h.os,k.tape.trans h.tape,k.output.trans h.output,Nat.le_trans h.size k.size,fun i hi hs => (k.block i (Nat.lt_of_lt_of_le hi h.size) hs).trans (h.block i hi hs)⟩
theorem Keeps.mono {S T : Nat → Prop} {a b : World} (h : Keeps S a b) (hs : ∀ k,k < a.heap.size → S k → T k) : Keeps T a b :=
 ⟨h.os,h.tape,h.output,h.size,fun k hk ht => h.block k hk (fun s => ht (hs k hk s))⟩
theorem Keeps.drewN (S : Nat → Prop) (w : World) (n : Nat) : Keeps S w (w.drewN n) := ⟨rfl,rfl,rfl,Nat.le_refl _,fun _ _ _ => rfl⟩
theorem Keeps.drew (S : Nat → Prop) (w : World) : Keeps S w w.drew := ⟨rfl,rfl,rfl,Nat.le_refl _,fun _ _ _ => rfl⟩
theorem Keeps.alloc (S : Nat → Prop) (w : World) (o : Obj) : Keeps S w (w.alloc o) := ⟨rfl,rfl,rfl,by simp,fun k hk _ => Below.heap_alloc w o k hk⟩
theorem Keeps.setCell (S : Nat → Prop) (w : World) (a : Addr) (u : Value) (h : S a.block) : Keeps S w (w.setCell a u) :=
 ⟨rfl,rfl,rfl,by simp [World.setCell],fun k hk hs => Below.heap_setCell _ _ _ _ (fun e => hs (e ▸ h))⟩
theorem Keeps.grown {S : Nat → Prop} {w w' : World} {row : Option Nat} (hg : w.grownBy w' row) (h : ∀ k,row = some k → S k) : Keeps S w w' :=
 ⟨hg.os,hg.tape,hg.output,hg.size,fun k hk hs => hg.block k hk (fun e => hs (h k e.symm))⟩
theorem Keeps.below {w w' : World} (S : Nat → Prop) (h : Below w.heap.size w w') : Keeps S w w' := ⟨h.os,h.tape,h.output,h.size,fun k hk _ => h.block k hk⟩
theorem Keeps.toBelow {S : Nat → Prop} {B : Nat} {w w' : World} (h : Keeps S w w') (hB : B ≤ w.heap.size) (hs : ∀ k,k < B → ¬ S k) : Below B w w' :=
 ⟨h.os,h.tape,h.output,h.size,fun k hk => h.block k (by omega) (hs k hk)⟩
theorem Keeps.cell {S : Nat → Prop} {w w' : World} (h : Keeps S w w') {a : Addr} (hb : a.block < w.heap.size) (hs : ¬ S a.block) : w'.cell? a = w.cell? a := World.cell?_of_block (w := w) (h.block a.block hb hs)
theorem Keeps.frozen {S : Nat → Prop} {w w' : World} (h : Keeps S w w') {a : Addr} (hb : a.block < w.heap.size) (hs : ¬ S a.block) : w'.frozen? a = w.frozen? a := World.frozen?_of_block (w := w) (h.block a.block hb hs)
theorem Keeps.rangeAt {S : Nat → Prop} {w w' : World} (h : Keeps S w w') {g o : Nat} {xs : List Value} (hx : w.rangeAt g o xs) (hs : ¬ S g) : w'.rangeAt g o xs := fun j v hv => by
 have hc := hx j v hv
 rw [h.cell (a := ⟨g,o + j,none⟩) (World.block_lt_of_cell? w _ hc) hs]; exact hc
theorem Keeps.there {S : Nat → Prop} {w w' : World} (h : Keeps S w w') {g o n : Nat} (hx : w.there g o n) (hs : ¬ S g) : w'.there g o n := fun j hj => by
 obtain ⟨h1,h2⟩ := hx j hj
 obtain ⟨u,hu⟩ := Option.isSome_iff_exists.1 h1
 have hb := World.block_lt_of_cell? w _ hu
 rw [h.cell (a := ⟨g,o + j,none⟩) hb hs,h.frozen (a := ⟨g,o + j,none⟩) hb hs]; exact ⟨h1,h2⟩
theorem tape_setCells (w : World) (g : Nat) : ∀ (o : Nat) (vs : List Value),(w.setCells g o vs).tape = w.tape := by
 intro o vs
 induction vs generalizing w o with
 | nil => rfl
 | cons v r ih => rw [World.setCells,ih]; rfl
theorem size_setCells (w : World) (g : Nat) : ∀ (o : Nat) (vs : List Value),(w.setCells g o vs).heap.size = w.heap.size := by
 intro o vs
 induction vs generalizing w o with
 | nil => rfl
 | cons v r ih => rw [World.setCells,ih]; simp [World.setCell]
theorem size_setCells_ge (w : World) (g o : Nat) (vs : List Value) : w.heap.size ≤ (w.setCells g o vs).heap.size := by rw [size_setCells]; exact Nat.le_refl _
def Sl (w : World) (base size : Nat) (v : Value) (n : Nat) (xs : List Value) : Prop :=
 xs.length = n * size ∧ ((v = .slice none 0 0 ∧ n = 0) ∨
  ∃ g off cap,v = .slice (some ⟨g,off,none⟩) n cap ∧ base ≤ g ∧ g < w.heap.size ∧ n ≤ cap ∧ cap ≤ maxLen ∧ w.rangeAt g off xs ∧ w.there g off (cap * size))
theorem Sl.nil (w : World) (base size : Nat) : Sl w base size (.slice none 0 0) 0 [] := ⟨by simp,.inl ⟨rfl,rfl⟩⟩
theorem Sl.kept {S : Nat → Prop} {w w' : World} {base size : Nat} {v : Value} {n : Nat} {xs : List Value} (h : Sl w base size v n xs) (hk : Keeps S w w') (hs : ∀ k,v.ownBlock = some k → ¬ S k) : Sl w' base size v n xs := by
 refine ⟨h.1,?_⟩
 rcases h.2 with h2 | ⟨g,off,cap,rfl,hB,hg,hn,hm,hr,ht⟩
 ·exact .inl h2
 ·have hsg := hs g rfl
  exact .inr ⟨g,off,cap,rfl,hB,Nat.lt_of_lt_of_le hg hk.size,hn,hm,hk.rangeAt hr hsg,hk.there ht hsg⟩
theorem Sl.lt {w : World} {base size : Nat} {v : Value} {n : Nat} {xs : List Value} (h : Sl w base size v n xs) : ∀ k,v.ownBlock = some k → base ≤ k ∧ k < w.heap.size := by
 intro k hk
 rcases h.2 with ⟨rfl,_⟩ | ⟨g,off,cap,rfl,hB,hg,_⟩
 ·simp [Value.ownBlock] at hk
 ·simp [Value.ownBlock] at hk
  subst hk
  exact ⟨hB,hg⟩
theorem Sl.ofOwn {w : World} {base : Nat} {e : TypeId} {size : Nat} {v : Value} {n : Nat} {xs : List Value} (h : w.ownsRow base e size v n xs) : Sl w base size v n xs := by
 refine ⟨h.1,?_⟩
 have hh := h
 rcases h.2 with h2 | ⟨g,cap,cur,rfl,hB,hg,hn,hm,hs,ht⟩
 ·exact .inl h2
 ·refine .inr ⟨g,0,cap,rfl,hB,(Array.getElem?_eq_some_iff.1 hg).1,hn,hm,fun j u hu => ?_,fun j hj => ?_⟩
  ·have := hh.cells (g := g) rfl j u hu
   rwa [Addr.add_mid] at this
  ·rw [cell_of_row w g (0 + j) cur e (0,0) hg]
   refine ⟨by simp; omega,?_⟩
   simp [World.frozen?,hg]
theorem Sl.form {w : World} {base size : Nat} {v : Value} {n : Nat} {xs : List Value} (h : Sl w base size v n xs) : ∃ a cap,v = .slice a n cap ∧ n ≤ cap ∧ (a = none ∨ ∃ b off,a = some ⟨b,off,none⟩) := by
 rcases h.2 with ⟨rfl,rfl⟩ | ⟨g,off,cap,rfl,hB,hg,hn,hm,hr,ht⟩
 ·exact ⟨none,0,rfl,Nat.le_refl _,.inl rfl⟩
 ·exact ⟨_,cap,rfl,hn,.inr ⟨g,off,rfl⟩⟩
section
variable {P : Program}
theorem rangeAt_append {w : World} {g o : Nat} {a b : List Value} (ha : w.rangeAt g o a) (hb : w.rangeAt g (o + a.length) b) : w.rangeAt g o (a ++ b) := fun j v hv => by
 by_cases h : j < a.length
 ·rw [List.getElem?_append_left h] at hv; exact ha j v hv
 ·rw [List.getElem?_append_right (by omega)] at hv
  have := hb _ v hv
  rwa [show o + a.length + (j - a.length) = o + j by omega] at this
theorem run_append_sl (w : World) (t ty e : TypeId) (i : TypeInfo) (z : Value) (size bytes : Nat) (ht : P.underlying t = some (.slice e)) (hi : P.info? e = some i) (hz : i.zero = some z)
  (hsize : i.size = size) (hby : i.bytes = bytes) (hzs : z.cells.size = size) (hsz : 0 < size) (base : Nat)
  (v : Value) (n : Nat) (xs : List Value) (hown : Sl w base size v n xs) (sv : Value) (m : Nat) (ys : List Value) (hsrc : SrcIs w size sv m ys) (h1 : ∀ u ∈ ys,u.oneCell' = true)
  (h63 : n + m ≤ maxLen) (hbytes : (n + m) * bytes ≤ 140737488355328) (hbase : base ≤ w.heap.size) :
  ∃ v' w',(Builtin.append_ #[t,t] ty #[v,sv]).run P w = .ok v' w' ∧ Sl w' base size v' (n + m) (xs ++ ys) ∧ w.grownBy w' v.ownBlock ∧ (v'.ownBlock = v.ownBlock ∨ ∀ k,v'.ownBlock = some k → w.heap.size ≤ k) := by
 have hlen : (xs ++ ys).length = (n + m) * size := by
  rw [List.length_append,hown.1,Nat.add_mul]
  rcases hsrc with ⟨_,rfl,rfl⟩ | ⟨ad,c,_,hl,_⟩
  ·simp
  ·rw [hl]
 have hs : Src P size t sv m ys w := by
  rcases hsrc with ⟨rfl,rfl,rfl⟩ | ⟨ad,c,rfl,hl,hc⟩
  ·exact Src.ofNil w ht 0
  ·exact Src.ofSlice w ht ad m c ys hl hc h1
 by_cases hm0 : m = 0
 ·subst hm0
  have hy : ys = [] := List.eq_nil_of_length_eq_zero (by have := hs.newsLen; simpa using this)
  subst hy
  have hr : (Builtin.append_ #[t,t] ty #[v,sv]).run P w = .ok v w := by
   rcases hown.2 with ⟨rfl,rfl⟩ | ⟨g,off,cap,rfl,hB,hg,hn,hmx,hra,hth⟩
   ·have hc := hs.cells
    subst hsize
    simp only [List.toArray] at hc
    simp [Builtin.append_,run_underlying ht,sizeOf,typeInfo,hi,hs.len,hc]
   ·have := run_append_room_src (P := P) w t t ty e i ht hi g off n cap sv 0 [] (by rw [hsize]; exact hs) (by omega) (fun j hj => by simp at hj) (fun j hj => by simp at hj)
    simpa [World.setCells] using this
  exact ⟨v,w,hr,by simpa using hown,⟨rfl,rfl,rfl,Nat.le_refl _,fun _ _ _ => rfl⟩,.inl rfl⟩
 ·have grown : ∀ (ao : Option Addr) (cap : Nat),(Builtin.firstCells i.size n (.slice ao n cap)).run P w.drew = .ok xs.toArray w.drew → v = .slice ao n cap → cap < n + m →
    ∃ v' w',(Builtin.append_ #[t,t] ty #[v,sv]).run P w = .ok v' w' ∧ Sl w' base size v' (n + m) (xs ++ ys) ∧ w.grownBy w' v.ownBlock ∧ (v'.ownBlock = v.ownBlock ∨ ∀ k,v'.ownBlock = some k → w.heap.size ≤ k) := by
   intro ao cap hold hv hc
   subst hv
   have hr := run_append_grow_src (P := P) w t t ty e i z ht hi hz ao n cap xs hold sv m ys (by rw [hsize]; exact hs) hc (by simp only [maxLen] at h63; omega) (by rw [hby]; exact growslice_fits hc hbytes)
   have hge := grownCap_ge w (n + m) cap e
   have hcm := grownCap_le_maxLen w (n + m) cap e h63
   have how : (w.drew.alloc (.cells ((xs ++ ys).toArray ++ Builtin.zeroCells z.cells (grownCap w (n + m) cap e - (n + m))) e)).ownsRow base e size (.slice (some ⟨w.heap.size,0,none⟩) (n + m) (grownCap w (n + m) cap e)) (n + m) (xs ++ ys) := by
    refine ⟨hlen,.inr ⟨w.heap.size,_,_,rfl,hbase,heap_alloc_new w.drew _,hge,hcm,?_,?_⟩⟩
    ·simp only [Array.size_append,List.size_toArray,size_zeroCells,hzs,hlen,← Nat.add_mul]
     congr 1
     omega
    ·simp only [Array.toList_append]
     rw [← hlen]
     exact List.take_left
   exact ⟨_,_,hr,Sl.ofOwn how,⟨rfl,rfl,rfl,by simp,fun k hk _ => Below.heap_alloc w.drew _ k hk⟩,.inr (fun k hk => by simp [Value.ownBlock] at hk; omega)⟩
  rcases hown.2 with ⟨rfl,rfl⟩ | ⟨g,off,cap,rfl,hB,hg,hn,hmx,hra,hth⟩
  ·have hx : xs = [] := List.eq_nil_of_length_eq_zero (by simpa using hown.1)
   subst hx
   exact grown none 0 (run_firstCells_none w.drew i.size 0 0 0) rfl (by omega)
  ·by_cases hroom : n + m ≤ cap
   ·have hyl : ys.length = m * size := hs.newsLen
    have hle : n * size + ys.length ≤ cap * size := by rw [hyl,← Nat.add_mul]; exact Nat.mul_le_mul_right _ hroom
    have hts : w.there g (off + n * size) ys.length := fun j hj => by
     have := hth (n * size + j) (by omega)
     rwa [← Nat.add_assoc] at this
    have hr := run_append_room_src (P := P) w t t ty e i ht hi g off n cap sv m ys (by rw [hsize]; exact hs) hroom (fun j hj => by rw [hsize]; exact (hts j hj).1) (fun j hj => by rw [hsize]; exact (hts j hj).2)
    rw [hsize] at hr
    refine ⟨_,_,hr,⟨hlen,.inr ⟨g,off,cap,rfl,hB,?_,hroom,hmx,rangeAt_append (World.rangeAt_setCells_apart hra _ _ _ (.inr (.inl (by rw [hown.1]; omega)))) ?_,World.there_setCells hth _ _ _⟩⟩,⟨World.os_setCells ..,?_,World.output_setCells ..,?_,fun k hk hne => World.heap_setCells_other w g _ _ hk (fun e => hne (by simp [Value.ownBlock,e]))⟩,.inl rfl⟩
    ·exact Nat.lt_of_lt_of_le hg (size_setCells_ge w g _ ys)
    ·rw [hown.1]; exact World.rangeAt_setCells_same w g _ ys hts
    ·exact tape_setCells w g _ ys
    ·exact size_setCells_ge w g _ ys
   ·exact grown (some ⟨g,off,none⟩) cap (by rw [hsize]; exact run_firstCells_some w.drew size n ⟨g,off,none⟩ n cap xs hown.1 (fun j u hu => by rw [Addr.add_mid]; simpa using hra j u hu)) rfl (by omega)
end
theorem wpList_append_sl {P : Program} {w : World} {ops : Array Oper} {rest : List Oper} {o : Oper} {a : Act} {Q : Exit → Act → World → Prop} (hgd : o.guard = none) (s x : Operand) (t : TypeId)
  (ho : o.op = .call { callee := .builtin .append,args := #[s,x],argTypes := #[t,t] })
  (e : TypeId) (i : TypeInfo) (z : Value) (size bytes : Nat) (ht : P.underlying t = some (.slice e)) (hi : P.info? e = some i) (hz : i.zero = some z)
  (hsize : i.size = size) (hby : i.bytes = bytes) (hzs : z.cells.size = size) (hsz : 0 < size) (base : Nat)
  (v : Value) (n : Nat) (xs : List Value) (hs : a.eval s = v) (hown : Sl w base size v n xs) (sv : Value) (m : Nat) (ys : List Value) (hx : a.eval x = sv) (hsrc : SrcIs w size sv m ys) (h1 : ∀ u ∈ ys,u.oneCell' = true)
  (h63 : n + m ≤ maxLen) (hbytes : (n + m) * bytes ≤ 140737488355328) (hbase : base ≤ w.heap.size)
  (h : ∀ v' w',Sl w' base size v' (n + m) (xs ++ ys) → w.grownBy w' v.ownBlock → (v'.ownBlock = v.ownBlock ∨ ∀ k,v'.ownBlock = some k → w.heap.size ≤ k) → wpList P ops Q rest (a.put o.dst v') w') : wpList P ops Q (o::rest) a w := by
 refine wpList_plain hgd fun K hK => ?_
 obtain ⟨v',w',hr,h2,h3,h4⟩ := run_append_sl (P := P) w t o.type e i z size bytes ht hi hz hsize hby hzs hsz base v n xs hown sv m ys hsrc h1 h63 hbytes hbase
 unfold Oper.wp execOp
 simp only [ho,resolve,invoke,builtin,Sem.run_bind,Sem.run_pure,Result.andThen_ok,List.map_toArray,List.map_cons,List.map_nil,hs,hx,hr]
 exact hK _ _ (h v' w' h2 h3 h4)
end Go.Proofs.YtbljbdjmgogknaaGreatDoor
