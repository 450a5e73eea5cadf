/-
  Wq / Wu / Wo3 / Qs: texts of one proof, one behind the other.
  Conditions: none of its own.
-/
import Derived.Test.YtjfpbeccpcbpcaaGreatDoorZad
import Derived.Test.YtjfpbeccpcbpcaaGreatDoorZaf
import Derived.Deep.Quiet
set_option linter.unusedVariables false
set_option linter.unusedSimpArgs false
set_option maxHeartbeats 12800000
set_option maxRecDepth 20000
namespace Go.Proofs.YtjfpbeccpcbpcaaGreatDoor.Wi
open Bd (St bInt bText sInt sText sSign sMore sDone inR)
/-! ### Many of a kind, read -/
def sMany {α : Type} (f : St → α × St) : Nat → St → List α × St
 | 0, q => ([], q)
 | n + 1, q => if sMore q then ((f q).1 :: (sMany f n (f q).2).1, (sMany f n (f q).2).2) else ([], q)
def sAll {α : Type} (f : St → α × St) (q : St) : List α × St := sMany f (q.1.length + 1) q
def Shr {α : Type} (f : St → α × St) : Prop := ∀ q, sMore q = true → (f q).2.2 = true ∨ (f q).2.1.length < q.1.length
def At {α : Type} (f : St → α × St) (q0 : St) (acc : List α) (q : St) : Prop :=
 ∃ n, (q.2 = true ∨ q.1.length < n) ∧ sAll f q0 = (acc ++ (sMany f n q).1, (sMany f n q).2)
theorem At.start {α : Type} (f : St → α × St) (q : St) : At f q [] q := ⟨q.1.length + 1, .inr (by omega), by simp [sAll]⟩
theorem more_good {q : St} (h : sMore q = true) : q.2 = false ∧ q.1 ≠ [] ∧ q.1.head? ≠ some 101 := by
 obtain ⟨s, b⟩ := q
 cases b with
 | true => simp [sMore] at h
 | false =>
  cases s with
  | nil => simp [sMore] at h
  | cons c s => simpa [sMore] using h
theorem At.next {α : Type} {f : St → α × St} (hf : Shr f) {q0 q : St} {acc : List α} (h : At f q0 acc q) (hm : sMore q = true) : At f q0 (acc ++ [(f q).1]) (f q).2 := by
 obtain ⟨n, hn, he⟩ := h
 have hg := (more_good hm).1
 rw [hg] at hn
 have hl := hn.resolve_left (by simp)
 obtain ⟨m, rfl⟩ : ∃ m, n = m + 1 := ⟨n - 1, by omega⟩
 refine ⟨m, ?_, ?_⟩
 ·rcases hf q hm with h | h
  ·exact .inl h
  ·exact .inr (by omega)
 ·rw [he, sMany, if_pos hm]
  simp
theorem At.stop {α : Type} {f : St → α × St} {q0 q : St} {acc : List α} (h : At f q0 acc q) (hm : sMore q = false) : sAll f q0 = (acc, q) := by
 obtain ⟨n, hn, he⟩ := h
 rw [he]
 cases n with
 | zero => simp [sMany]
 | succ n => simp [sMany, hm]
theorem sMany_len {α : Type} {f : St → α × St} (hl : ∀ q, (f q).2.1.length ≤ q.1.length) : ∀ (n : Nat) (q : St), (sMany f n q).2.1.length ≤ q.1.length
 | 0, q => Nat.le_refl _
 | n + 1, q => by
  rw [sMany]
  split
  ·exact Nat.le_trans (sMany_len hl n _) (hl q)
  ·exact Nat.le_refl _
theorem At.len {α : Type} {f : St → α × St} (hf : Shr f) {q0 q : St} {acc : List α} (h : At f q0 acc q) : acc.length ≤ (sAll f q0).1.length := by
 obtain ⟨n, hn, he⟩ := h
 rw [he]
 simp
theorem sMany_all {α : Type} {f : St → α × St} {P : α → Prop} (hp : ∀ q, P (f q).1) : ∀ (n : Nat) (q : St), ∀ x ∈ (sMany f n q).1, P x
 | 0, q => by intro x hx; cases hx
 | n + 1, q => by
  rw [sMany]
  split
  ·intro x hx
   rcases List.mem_cons.1 hx with rfl | hx
   ·exact hp q
   ·exact sMany_all hp n _ x hx
  ·intro x hx; cases hx
theorem sMany_count {α : Type} {f : St → α × St} : ∀ (n : Nat) (q : St), (sMany f n q).1.length ≤ n
 | 0, q => Nat.le_refl _
 | n + 1, q => by
  rw [sMany]
  split
  ·simp only [List.length_cons]
   exact Nat.succ_le_succ (sMany_count n _)
  ·exact Nat.zero_le _
/-! ### What can be -/
def reqB (q : Req) : Bool :=
 inB q.client 1 4 && (inB q.kind 1 8 && (areB 0 1099511627776 [q.n, q.part, q.seq, q.max, q.gen] && (inB q.off (-1099511627776) 1099511627776 && (q.recs.all (fun x => decide (x.off = 0)) &&
  (decide (q.group.length ≤ 8) && (decide (q.member.length ≤ 8) && (decide (q.recs.length = 0) || Cr.fits q.recs)))))))
def risingB : Int → List Cr.Rec → Bool
 | _, [] => true
 | p, x :: r => inB x.off 0 1099511627776 && (Cr.fits [x] && (decide (p < x.off) && risingB x.off r))
def respB (a : Resp) : Bool :=
 inB a.client 1 4 && (inB a.code 0 99 && (areB 0 1099511627776 [a.n, a.off, a.high, a.gen] && (decide (a.parts.length ≤ 4) && (areB 0 3 a.parts && (decide (a.recs.length ≤ 16) && risingB (-1) a.recs)))))
def lifeB (x : Int × Int) : Bool := inB x.1 1 5 && inB x.2 0 1073741824
def placeB (m : Msg) : Bool :=
 inB m.pep 0 1073741824 && (inB m.learner 0 5 && (decide (m.chain.length ≤ 5) && (areB 1 5 m.chain && (decide (m.lives.length ≤ 5) && m.lives.all lifeB))))
def slotB (x : Slot) : Bool := Cr.isNum x.1 && (Cr.isNum x.2.1 && (Cr.isNum x.2.2 && decide (x.2.1 < x.2.2)))
def nextB (p : Option Slot) (x : Slot) : Bool := match p with
 | none => true
 | some y => decide (x.1 = y.1 + 1) && decide (y.2.2 ≤ x.2.1)
def rowB : Option Slot → List Slot → Bool
 | _, [] => true
 | p, x :: r => slotB x && (nextB p x && rowB (some x) r)
def slotsB (l : List Slot) : Bool := rowB none l && (decide (1 ≤ l.length) && decide (l.length ≤ 5))
def aboveB (p : Option Int) (x : Int) : Bool := match p with
 | none => true
 | some y => decide (y < x)
def seensB : Option Int → List Seen → Bool
 | _, [] => true
 | p, x :: r => Cr.isNum x.1 && (aboveB p x.1 && (slotsB x.2 && seensB (some x.1) r))
def tableB (t : List Seen) : Bool := seensB none t && decide (t.length ≤ 64)
def first (m : Msg) : Bool := inB m.kind 1 9 && (unitB m.frm && (unitB m.to && (inB m.part 0 3 && (areB 0 1073741824 [m.ep, m.life] && (areB (-1) 1099511627776 [m.off, m.high] && same m (only m))))))
def lastB (m : Msg) : Bool :=
 if m.kind = 1 ∨ m.kind = 7 then reqB m.req else if m.kind = 2 then respB m.resp else if m.kind = 4 then placeB m else if m.kind = 5 then Cr.good m.batch else if m.kind = 8 then tableB m.table else true
def good (m : Msg) : Bool := first m && lastB m
/-! ### Bytes -/
def encInts (l : List Int) : List UInt8 := (l.map bInt).flatten
def listB (b : List UInt8) : List UInt8 := 108 :: (b ++ [101])
def encRec (x : Cr.Rec) : List UInt8 := bInt x.off ++ (bText x.key ++ (bText x.val ++ bInt (Cr.flag x.gone)))
def encRecs (l : List Cr.Rec) : List UInt8 := listB (l.map encRec).flatten
def encSlot (y : Slot) : List UInt8 := listB (bInt y.1 ++ (bInt y.2.1 ++ bInt y.2.2))
def encSeen (x : Seen) : List UInt8 := listB (bInt x.1 ++ (x.2.map encSlot).flatten)
def encTable (t : List Seen) : List UInt8 := listB (t.map encSeen).flatten
def flatLives (l : List (Int × Int)) : List Int := l.flatMap fun x => [x.1, x.2]
def reqNumsL (q : Req) : List Int := [q.client, q.n, q.kind, q.part, q.seq, q.off, q.max, q.gen]
def respNumsL (a : Resp) : List Int := [a.client, a.n, a.code, a.off, a.high, a.gen]
def tailL (m : Msg) : List (List UInt8) :=
 if m.kind = 1 ∨ m.kind = 7 then (reqNumsL m.req).map bInt ++ [bText m.req.group, bText m.req.member, encRecs m.req.recs]
 else if m.kind = 2 then (respNumsL m.resp).map bInt ++ [listB (encInts m.resp.parts), encRecs m.resp.recs]
 else if m.kind = 3 then [bInt m.life]
 else if m.kind = 4 then [bInt m.pep, listB (encInts m.chain), bInt m.learner, listB (encInts (flatLives m.lives))]
 else if m.kind = 5 then [bText (Cr.enc m.batch)]
 else if m.kind = 6 then [bInt m.off, bInt m.high]
 else if m.kind = 8 then [bInt m.off, bText (encTable m.table)]
 else if m.kind = 9 then [bInt m.off] else []
def headL (m : Msg) : List (List UInt8) := [m.kind, m.frm, m.to].map bInt ++ (if 4 ≤ m.kind then [m.part, m.ep].map bInt else [])
def fieldsL (m : Msg) : List (List UInt8) := headL m ++ tailL m
def enc (m : Msg) : List UInt8 := listB (fieldsL m).flatten
/-! ### Reading -/
def sRec4 (q : St) : (Cr.Rec × Bool) × St :=
 let o := sInt q
 let k := sText 16 o.2
 let v := sText 64 k.2
 let g := sInt v.2
 ((⟨o.1, k.1, v.1, g.1 == 1⟩, g.1 == Cr.flag (g.1 == 1)), g.2)
def sInts (q : St) : List Int × St := let r := sAll sInt (sSign 108 q); (r.1, sSign 101 r.2)
def sRecs (q : St) : (List Cr.Rec × Bool) × St := let r := sAll sRec4 (sSign 108 q); ((r.1.map (·.1), r.1.all (·.2)), sSign 101 r.2)
def sReq (q : St) : (Req × Bool) × St :=
 let a := sInt q
 let b := sInt a.2
 let c := sInt b.2
 let d := sInt c.2
 let e := sInt d.2
 let f := sInt e.2
 let g := sInt f.2
 let h := sInt g.2
 let i := sText 8 h.2
 let j := sText 8 i.2
 let r := sRecs j.2
 ((⟨a.1, b.1, c.1, d.1, e.1, f.1, g.1, h.1, i.1, j.1, r.1.1⟩, r.1.2), r.2)
def sResp (q : St) : (Resp × Bool) × St :=
 let a := sInt q
 let b := sInt a.2
 let c := sInt b.2
 let d := sInt c.2
 let e := sInt d.2
 let f := sInt e.2
 let p := sInts f.2
 let r := sRecs p.2
 ((⟨a.1, b.1, c.1, d.1, e.1, f.1, p.1, r.1.1⟩, r.1.2), r.2)
def pairs : List Int → List (Int × Int)
 | x :: y :: r => (x, y) :: pairs r
 | _ => []
def evenB (l : List Int) : Bool := l.length % 2 == 0
def sPlace (q : St) : ((Int × List Int × Int × List (Int × Int)) × Bool) × St :=
 let a := sInt q
 let c := sInts a.2
 let b := sInt c.2
 let l := sInts b.2
 (((a.1, c.1, b.1, if evenB l.1 then pairs l.1 else []), evenB l.1), l.2)
def sSlot (q : St) : Slot × St :=
 let a := sInt (sSign 108 q)
 let b := sInt a.2
 let c := sInt b.2
 ((a.1, b.1, c.1), sSign 101 c.2)
def sSeen (q : St) : Seen × St :=
 let a := sInt (sSign 108 q)
 let r := sAll sSlot a.2
 ((a.1, r.1), sSign 101 r.2)
def decTable (s : List UInt8) : Option (List Seen) :=
 let r := sAll sSeen (sSign 108 (s, false))
 if sDone (sSign 101 r.2) = 0 && tableB r.1 then some r.1 else none
def zMsg : Msg := ⟨0, 0, 0, 0, 0, 0, 0, 0, 0, [], 0, [], zBatch, [], zReq, zResp⟩
def sTail (m : Msg) (q : St) : (Msg × Bool) × St :=
 if m.kind = 1 ∨ m.kind = 7 then let r := sReq q; (({ m with req := r.1.1 }, r.1.2), r.2)
 else if m.kind = 2 then let r := sResp q; (({ m with resp := r.1.1 }, r.1.2), r.2)
 else if m.kind = 3 then let r := sInt q; (({ m with life := r.1 }, true), r.2)
 else if m.kind = 4 then let r := sPlace q; (({ m with pep := r.1.1.1, chain := r.1.1.2.1, learner := r.1.1.2.2.1, lives := r.1.1.2.2.2 }, r.1.2), r.2)
 else if m.kind = 5 then let r := sText 16384 q; (({ m with batch := (Cr.dec r.1).getD zBatch }, (Cr.dec r.1).isSome), r.2)
 else if m.kind = 6 then let r := sInt q; let h := sInt r.2; (({ m with off := r.1, high := h.1 }, true), h.2)
 else if m.kind = 8 then let o := sInt q; let r := sText 16384 o.2; (({ m with off := o.1, table := (decTable r.1).getD [] }, (decTable r.1).isSome), r.2)
 else if m.kind = 9 then let r := sInt q; (({ m with off := r.1 }, true), r.2)
 else ((m, true), q)
def sHead (q : St) : Msg × St :=
 let a := sInt q
 let b := sInt a.2
 let c := sInt b.2
 if 4 ≤ a.1 then
  let d := sInt c.2
  let e := sInt d.2
  ({ zMsg with kind := a.1, frm := b.1, «to» := c.1, part := d.1, ep := e.1 }, e.2)
 else ({ zMsg with kind := a.1, frm := b.1, «to» := c.1 }, c.2)
def sMsg (q : St) : (Msg × Bool) × St := sTail (sHead q).1 (sHead q).2
end Go.Proofs.YtjfpbeccpcbpcaaGreatDoor.Wi
namespace Go.Proofs.YtjfpbeccpcbpcaaGreatDoor
open Go.RowKit
theorem wwithin_any (n low high : Int) (w : World) : Calls Tryz.prog 31 #[.int .i64 n, .int .i64 low, .int .i64 high] w fun e w' => e = .returned (.bool (Wi.inB n low high)) ∧ w' = w := by
 unfold Wi.inB
 by_cases h0 : low ≤ n
 ·by_cases h1 : n ≤ high
  ·rw [show (decide (low ≤ n) && decide (n ≤ high)) = true by simp [h0, h1]]
   go_enter Tryz.func31, Tryz.ntmps31
   go_wp2
   go_ret
   exact ⟨by simp [h0, h1] <;> omega, rfl⟩
  ·rw [show (decide (low ≤ n) && decide (n ≤ high)) = false by simp [h0, h1]]
   go_enter Tryz.func31, Tryz.ntmps31
   go_wp2
   go_ret
   exact ⟨by simp [h0, h1] <;> omega, rfl⟩
 ·rw [show (decide (low ≤ n) && decide (n ≤ high)) = false by simp [h0]]
  go_enter Tryz.func31, Tryz.ntmps31
  go_wp2
  go_ret
  exact ⟨rfl, rfl⟩
theorem isUnit_any (n : Int) (w : World) : Calls Tryz.prog 32 #[.int .i64 n] w fun e w' => e = .returned (.bool (Wi.unitB n)) ∧ w' = w := by
 unfold Wi.unitB
 have H1 := hq' (wwithin_any n 0 5 w)
 have H2 := hq' (wwithin_any n 11 14 w)
 generalize Wi.inB n 0 5 = b1 at *
 generalize Wi.inB n 11 14 = b2 at *
 go_enter Tryz.func32, Tryz.ntmps32
 go_wp2_with fail
 refine H1.out.mono ?_
 rintro e w1 ⟨rfl, rfl⟩
 cases b1 with
 | true =>
  go_wp2
  go_ret
  exact ⟨rfl, rfl⟩
 | false =>
  go_wp2_with fail
  refine H2.out.mono ?_
  rintro e w2 ⟨rfl, rfl⟩
  go_wp2
  go_ret
  exact ⟨rfl, rfl⟩
def idxP {α : Type} (p : α → Bool) : Nat → List α → Int
 | _, [] => -1
 | k, x :: r => if p x then (k : Int) else idxP p (k + 1) r
theorem idxP_any {α : Type} (p : α → Bool) : ∀ (l : List α) (k : Nat), decide (0 ≤ idxP p k l) = l.any p
 | [], k => by simp [idxP]
 | x :: r, k => by
  unfold idxP
  cases h : p x with
  | true => simp [h]
  | false => simp only [Bool.false_eq_true, if_false, List.any_cons, h, Bool.false_or]; exact idxP_any p r (k + 1)
theorem idxP_step {α : Type} {p : α → Bool} {l : List α} {k : Nat} {x : α} (hx : l[k]? = some x) : idxP p k (l.drop k) = if p x then (k : Int) else idxP p (k + 1) (l.drop (k + 1)) := by
 obtain ⟨hk, rfl⟩ := List.getElem?_eq_some_iff.1 hx
 rw [List.drop_eq_getElem_cons hk]
 rfl
theorem are1_any (n lo hi : Int) (pl ph : Nat) (w : World) (h1 : Cl w pl [.int .i64 lo] 3) (h2 : Cl w ph [.int .i64 hi] 3) :
  Calls Tryz.prog 90 #[.int .i64 n, .pointer (some ⟨pl, 0, none⟩), .pointer (some ⟨ph, 0, none⟩)] w fun e w' => e = .returned (.bool (!Wi.inB n lo hi)) ∧ w' = w := by
 have H := hq' (wwithin_any n lo hi w)
 have a0 := h1.cell 0
 have b0 := h2.cell 0
 simp only [g0', gs'] at a0 b0
 generalize Wi.inB n lo hi = b1 at *
 clear h1 h2
 go_enter Tryz.func90, Tryz.ntmps90
 go_wp2_with fail
 refine H.out.mono ?_
 rintro e w1 ⟨rfl, rfl⟩
 cases b1 <;>
 ·go_wp2
  go_ret
  exact ⟨rfl, rfl⟩
theorem idxInts_any (l : List Int) (hl : l.length ≤ maxLen) (v : Value) (lo hi : Int) (pl ph : Nat) (w : World) (h : Ints w v l) (h1 : Cl w pl [.int .i64 lo] 3) (h2 : Cl w ph [.int .i64 hi] 3) :
  Calls Tryz.prog 128 #[v, .func (.func 90) #[] #[.pointer (some ⟨pl, 0, none⟩), .pointer (some ⟨ph, 0, none⟩)]] w fun e w' => e = .returned (.int .i64 (idxP (fun n => !Wi.inB n lo hi) 0 l)) ∧ w' = w := by
 have HZ := hq' h
 have H1 := hq' h1
 have H2 := hq' h2
 obtain ⟨a, cap, rfl⟩ := h.form
 unfold maxLen at hl
 clear h h1 h2
 go_enter Tryz.func128, Tryz.ntmps128
 go_wp2
 go_loop [8] (fun i => ∃ k : Nat, i = .int .i64 k ∧ k ≤ l.length ∧ idxP (fun n => !Wi.inB n lo hi) 0 l = idxP (fun n => !Wi.inB n lo hi) k (l.drop k)) (fun i => l.length - (intOf i).toNat)
 case atStart => exact ⟨0, rfl, by omega, rfl⟩
 case round =>
  obtain ⟨k, rfl, hk, hq⟩ := hrel
  have HQ := hq' hq
  clear hq
  by_cases hlt : k < l.length
  ·obtain ⟨x, hx⟩ : ∃ x, l[k]? = some x := ⟨l[k], by simp [hlt]⟩
   have HS := hq' (idxP_step (p := fun n => !Wi.inB n lo hi) hx)
   have HN := hq' (are1_any x lo hi pl ph w H1.out H2.out)
   obtain ⟨g, off, cap', he, hg, p0⟩ := HZ.out.get (Below.refl _ _) hx
   injection he with he1 he2 he3
   subst he1 he3
   clear he2
   cases hb : Wi.inB x lo hi with
   | true =>
    rw [hb] at HN
    have HX : Hid (idxP (fun n => !Wi.inB n lo hi) 0 l = idxP (fun n => !Wi.inB n lo hi) (k + 1) (l.drop (k + 1))) := by rw [Hid, HQ.out, HS.out, hb]; rfl
    clear hb HS HQ
    go_wp2_with fail
    refine HN.out.mono ?_
    rintro e w5 ⟨rfl, rfl⟩
    go_wp2
    go_round
    case rel => exact ⟨k + 1, by go_num, by omega, HX.out⟩
    case measure => simp [intOf]; omega
   | false =>
    rw [hb] at HN
    have HX : Hid (idxP (fun n => !Wi.inB n lo hi) 0 l = (k : Int)) := by rw [Hid, HQ.out, HS.out, hb]; rfl
    clear hb HS HQ
    go_wp2_with fail
    refine HN.out.mono ?_
    rintro e w5 ⟨rfl, rfl⟩
    go_wp2
    go_ret
    exact ⟨by rw [HX.out]; rfl, rfl⟩
  ·obtain rfl : k = l.length := by omega
   have HX : Hid (idxP (fun n => !Wi.inB n lo hi) 0 l = -1) := by rw [Hid, HQ.out, List.drop_length]; rfl
   go_wp2
   go_ret
   exact ⟨by rw [HX.out]; rfl, rfl⟩
theorem any_not (low high : Int) (l : List Int) : (l.any fun n => !Wi.inB n low high) = !Wi.areB low high l := by
 unfold Wi.areB
 induction l with
 | nil => rfl
 | cons x r ih => rw [List.any_cons, List.all_cons, ih]; cases Wi.inB x low high <;> simp
theorem containsInts_any (l : List Int) (hl : l.length ≤ maxLen) (v : Value) (lo hi : Int) (pl ph : Nat) (w : World) (h : Ints w v l) (h1 : Cl w pl [.int .i64 lo] 3) (h2 : Cl w ph [.int .i64 hi] 3) :
  Calls Tryz.prog 89 #[v, .func (.func 90) #[] #[.pointer (some ⟨pl, 0, none⟩), .pointer (some ⟨ph, 0, none⟩)]] w fun e w' => e = .returned (.bool (!Wi.areB lo hi l)) ∧ w' = w := by
 have HI := hq' (idxInts_any l hl v lo hi pl ph w h h1 h2)
 have hd := idxP_any (fun n => !Wi.inB n lo hi) l 0
 rw [any_not] at hd
 generalize idxP (fun n => !Wi.inB n lo hi) 0 l = r at *
 obtain ⟨a, cap, rfl⟩ := h.form
 have HD := hq' hd
 clear h h1 h2 hl hd
 cases hb : Wi.areB lo hi l with
 | true =>
  rw [hb] at HD
  have hr : decide (0 ≤ r) = false := HD.out
  have hr2 : r < 0 := by simpa using hr
  go_enter Tryz.func89, Tryz.ntmps89
  go_wp2_with fail
  refine HI.out.mono ?_
  rintro e w1 ⟨rfl, rfl⟩
  go_wp2
  go_ret
  exact ⟨by simp [hr2], rfl⟩
 | false =>
  rw [hb] at HD
  have hr : decide (0 ≤ r) = true := HD.out
  have hr2 : 0 ≤ r := by simpa using hr
  go_enter Tryz.func89, Tryz.ntmps89
  go_wp2_with fail
  refine HI.out.mono ?_
  rintro e w1 ⟨rfl, rfl⟩
  go_wp2
  go_ret
  exact ⟨by simp [hr2], rfl⟩
theorem are_sz (l : List Int) (hl : l.length ≤ maxLen) (v : Value) (lo hi : Int) (w : World) (h : Ints w v l) :
  Calls Tryz.prog 33 #[.int .i64 lo, .int .i64 hi, v] w fun e w' => e = .returned (.bool (Wi.areB lo hi l)) ∧ Below w.heap.size w w' ∧ w'.heap.size = w.heap.size + 2 := by
 have C1 : Hid (Cl (w.alloc (.cells #[.int .i64 lo] 3)) w.heap.size [.int .i64 lo] 3) := Cl.new w _ _
 have C2 : Hid (Cl ((w.alloc (.cells #[.int .i64 lo] 3)).alloc (.cells #[.int .i64 hi] 3)) (w.heap.size + 1) [.int .i64 hi] 3) := by
  have h := Cl.new (w.alloc (.cells #[.int .i64 lo] 3)) [.int .i64 hi] 3
  rw [World.size_alloc] at h
  exact h
 have C3 : Hid (Cl ((w.alloc (.cells #[.int .i64 lo] 3)).alloc (.cells #[.int .i64 hi] 3)) w.heap.size [.int .i64 lo] 3) := C1.out.alloc _
 have B2 : Hid (Below w.heap.size w ((w.alloc (.cells #[.int .i64 lo] 3)).alloc (.cells #[.int .i64 hi] 3))) := ((Below.refl _ _).alloc (Nat.le_refl _) _).alloc (by simp) _
 have HC := hq' (containsInts_any l hl v lo hi w.heap.size (w.heap.size + 1) _ (h.kept B2.out) C3.out C2.out)
 obtain ⟨a, cap, rfl⟩ := h.form
 generalize Wi.areB lo hi l = b at *
 clear h hl C1 C2 C3
 go_enter Tryz.func33, Tryz.ntmps33
 go_wp2_with fail
 refine HC.out.mono ?_
 rintro e w3 ⟨rfl, rfl⟩
 cases b <;>
 ·go_wp2
  go_ret
  exact ⟨rfl, B2.out, by simp⟩
theorem are_any (l : List Int) (hl : l.length ≤ maxLen) (v : Value) (lo hi : Int) (w : World) (h : Ints w v l) :
  Calls Tryz.prog 33 #[.int .i64 lo, .int .i64 hi, v] w fun e w' => e = .returned (.bool (Wi.areB lo hi l)) ∧ Below w.heap.size w w' :=
 (are_sz l hl v lo hi w h).mono fun e w' ⟨he, hb, _⟩ => ⟨he, hb⟩
open Go.RowKit
def onlyV (m : Wi.Msg) (v : MsgV) : MsgV :=
 {chain := if m.kind = 4 then v.chain else .slice none 0 0
  lives := if m.kind = 4 then v.lives else .slice none 0 0
  brecs := if m.kind = 5 then v.brecs else .slice none 0 0
  table := if m.kind = 8 then v.table else .slice none 0 0
  qrecs := if m.kind = 1 ∨ m.kind = 7 then v.qrecs else .slice none 0 0
  parts := if m.kind = 2 then v.parts else .slice none 0 0
  arecs := if m.kind = 2 then v.arecs else .slice none 0 0 }
theorem recs_nil0 (w : World) : Recs w (.slice none 0 0) [] := ⟨none, 0, rfl, fun i x hx => by simp at hx⟩
theorem MsgAt.only {w : World} {m : Wi.Msg} {v : MsgV} (h : MsgAt w m v) : MsgAt w (Wi.only m) (onlyV m v) := by
 unfold Wi.only onlyV
 constructor <;> dsimp only
 ·split; exact h.chain; exact Ints.nil w
 ·split; exact h.lives; exact Rw.nil _ _ w
 ·split; exact h.brecs; exact recs_nil0 w
 ·split; exact h.table; exact Tbl.nil w
 ·split; exact h.qrecs; exact recs_nil0 w
 ·split; exact h.parts; exact Ints.nil w
 ·split; exact h.arecs; exact recs_nil0 w
theorem Cl.row {w : World} {g : Nat} {old : List Value} {t : TypeId} (h : Cl w g old t) (cs : Array Value) : Cl (w.setRow g cs) g cs.toList t := setRow_heap _ _ _ _ _ _ h
theorem Keeps.row {S : Nat → Prop} (w : World) (g : Nat) (cs : Array Value) (h : S g) : Keeps S w (w.setRow g cs) := ⟨rfl, rfl, rfl, by simp, fun k hk hn => setRow_other _ _ _ _ (fun e => hn (by rw [e]; exact h))⟩
theorem Cl.range {w : World} {g : Nat} {cs : List Value} {t : TypeId} (h : Cl w g cs t) : w.rangeAt g 0 cs := fun j v hv => by rw [Nat.zero_add, Cl.cell h j]; exact hv
theorem only_k3 (m : Wi.Msg) (v : MsgV) (w : World) (h : MsgAt w m v) (hk : m.kind = 3) :
  Calls Tryz.prog 34 #[msgV m v] w fun e w' => e = .returned (msgV (Wi.only m) (onlyV m v)) ∧ Below w.heap.size w w' := by
 obtain ⟨s0, c0, s1, c1, s2, c2, s3, c3, s4, c4, s5, c5, s6, c6, rfl⟩ := h.slices
 obtain ⟨x_kind, x_frm, x_to, x_part, x_ep, x_off, x_high, x_life, x_pep, x_chain, x_learner, x_lives, x_batch, x_table, x_req, x_resp⟩ := m
 dsimp only at *
 clear h
 subst hk
 obtain ⟨L, hL⟩ : ∃ L, L = msgC (Wi.only ⟨3, x_frm, x_to, x_part, x_ep, x_off, x_high, x_life, x_pep, x_chain, x_learner, x_lives, x_batch, x_table, x_req, x_resp⟩) (onlyV ⟨3, x_frm, x_to, x_part, x_ep, x_off, x_high, x_life, x_pep, x_chain, x_learner, x_lives, x_batch, x_table, x_req, x_resp⟩ ⟨.slice s0 x_chain.length c0, .slice s1 x_lives.length c1, .slice s2 x_batch.recs.length c2, .slice s3 x_table.length c3, .slice s4 x_req.recs.length c4, .slice s5 x_resp.parts.length c5, .slice s6 x_resp.recs.length c6⟩) := ⟨_, rfl⟩
 have HLV : Hid (msgV (Wi.only ⟨3, x_frm, x_to, x_part, x_ep, x_off, x_high, x_life, x_pep, x_chain, x_learner, x_lives, x_batch, x_table, x_req, x_resp⟩) (onlyV ⟨3, x_frm, x_to, x_part, x_ep, x_off, x_high, x_life, x_pep, x_chain, x_learner, x_lives, x_batch, x_table, x_req, x_resp⟩ ⟨.slice s0 x_chain.length c0, .slice s1 x_lives.length c1, .slice s2 x_batch.recs.length c2, .slice s3 x_table.length c3, .slice s4 x_req.recs.length c4, .slice s5 x_resp.parts.length c5, .slice s6 x_resp.recs.length c6⟩) = .agg L.toArray) := by rw [Hid, hL, msgV]
 rw [HLV.out]
 have HL0 := hq' hL
 have HL38 := msg38 hL
 have HL39 := msg39 hL
 have HLON : Hid ((L.toArray : Array Value).all (·.oneCell') = true) := by rw [Hid, hL]; simp [msgC, onlyV, Value.oneCell']
 have HLSZ := msgSz hL
 clear hL HLV
 unfold msgV msgC
 dsimp only
 go_enter Tryz.func34, Tryz.ntmps34
 obtain ⟨w1, hw1, CA, CR, B1⟩ := twoBox (w := w) (.int .i64 3 :: .int .i64 x_frm :: .int .i64 x_to :: xt x_part x_ep x_off x_high x_life x_pep x_chain x_learner x_lives x_batch x_table x_req x_resp s0 c0 s1 c1 s2 c2 s3 c3 s4 c4 s5 c5 s6 c6) (zt0) 36
 go_upto_region 1 with (fail)
 first | rw [hw1] | skip
 clear hw1
 have hs1 : w.heap.size + 2 ≤ w1.heap.size := by have := CR.out.lt; omega
 have hsw : w.heap.size + 1 ≠ w1.heap.size := by omega
 have hsw2 : w.heap.size ≤ w1.heap.size := by omega
 obtain ⟨pr, hpr⟩ : ∃ pr, pr = w.heap.size + 1 := ⟨_, rfl⟩
 rw [← hpr] at CR hsw ⊢
 obtain ⟨pa, hpa⟩ : ∃ pa, pa = w.heap.size := ⟨_, rfl⟩
 rw [← hpa] at CA
 first | rw [← hpa] | skip
 have HPA := hq' hpa
 have hprw : w.heap.size ≤ pr := by omega
 clear hpr hs1 hpa
 have a0 := CA.out.cell 0
 have a1 := CA.out.cell 1
 have a2 := CA.out.cell 2
 simp only [g0', gs'] at a0 a1 a2
 have HZC : Hid ((w1.alloc (.cells (zt0).toArray 36)).heap[w1.heap.size]? = some (.cells (zt0).toArray 36 (0, 0))) := Cl.new w1 (zt0) _
 have CO : Hid (Cl ((w1.alloc (.cells (zt0).toArray 36)).setRow w1.heap.size (.int .i64 3 :: .int .i64 x_frm :: .int .i64 x_to :: zt3).toArray) w1.heap.size (.int .i64 3 :: .int .i64 x_frm :: .int .i64 x_to :: zt3) 36) := Cl.row (Cl.new w1 (zt0) _) _
 have b2 : Hid (Below w1.heap.size w1 ((w1.alloc (.cells (zt0).toArray 36)).setRow w1.heap.size (.int .i64 3 :: .int .i64 x_frm :: .int .i64 x_to :: zt3).toArray)) := ((Below.refl _ _).alloc (Nat.le_refl _) _).trans ((Keeps.row (S := fun j => j = w1.heap.size) _ w1.heap.size _ rfl).toBelow (by simp) (fun k hk e => by omega))
 have HI38 := hq' (show (Tryz.prog.info? 36).map (·.size) = some ((.int .i64 3 :: .int .i64 x_frm :: .int .i64 x_to :: zt3).toArray : Array Value).size by kernel_rfl)
 have HONE : Hid (((.int .i64 3 :: .int .i64 x_frm :: .int .i64 x_to :: zt3).toArray : Array Value).all (·.oneCell') = true) := by simp [Hid, Value.oneCell']
 have HSZ : Hid (((zt0).toArray : Array Value).size = ((.int .i64 3 :: .int .i64 x_frm :: .int .i64 x_to :: zt3).toArray : Array Value).size) := rfl
 go_upto_region 2 with (refine wpList_store_row (by rfl) _ _ _ (by rfl) w1.heap.size (.int .i64 3 :: .int .i64 x_frm :: .int .i64 x_to :: zt3).toArray (by rfl) (by rfl) 36 _ HZC.out HI38.out HSZ.out HONE.out ?_)
 generalize (w1.alloc (.cells (zt0).toArray 36)).setRow w1.heap.size (.int .i64 3 :: .int .i64 x_frm :: .int .i64 x_to :: zt3).toArray = w2 at *
 clear HZC HI38 HONE HSZ a0 a1 a2
 have hpo : ¬ pr = w1.heap.size := hsw
 have hpo2 : ¬ pa = w1.heap.size := by have := CA.out.lt; omega
 have CA2 := hq' (CA.out.below b2.out)
 have CR2 := hq' (CR.out.below b2.out)
 have B2 := hq' (bt B1.out b2.out)
 generalize w1.heap.size = po at *
 clear CA CR B1 b2 hsw
 have a0 := CA2.out.cell 0
 simp only [g0', gs'] at a0
 go_upto_if 13 with (fail)
 go_cut [] (fun wz => Cl wz po (.int .i64 3 :: .int .i64 x_frm :: .int .i64 x_to :: zt3) 36 ∧ Keeps (fun j => j = po) w2 wz)
 case first =>
  have K9 := Keeps.refl (fun j => j = po) w2
  go_wp2
  go_meet
  case rel => exact ⟨CO.out, K9⟩
 case rest =>
  obtain ⟨hC3, hK3⟩ := hcut
  generalize wc = w3 at *
  have CO3 := hq' hC3
  have CA3 := hq' (Cl.keep CA2.out hK3 hpo2)
  have CR3 := hq' (Cl.keep CR2.out hK3 hpo)
  have B3 : Hid (Below w.heap.size w w3) := B2.out.trans (hK3.toBelow B2.out.size (fun k hk e => by omega))
  clear hC3 hK3 CA2 CR2 B2 CO a0
  have a0 := CA3.out.cell 0
  simp only [g0', gs'] at a0
  go_upto_block 0 with (fail)
  go_cut [] (fun wz => Cl wz po L 36 ∧ Cl wz pr (zt0) 36 ∧ Below w.heap.size w wz)
  case first =>
   clear a0 HL38 HL39 HLON HLSZ
   have HL : Hid (L = (.int .i64 3 :: .int .i64 x_frm :: .int .i64 x_to :: .int .i64 0 :: .int .i64 0 :: .int .i64 0 :: .int .i64 0 :: .int .i64 x_life :: zt8)) := by
    rw [Hid, HL0.out]
    rfl
   clear HL0
   have CO := hq' CO3.out
   have a7 := CA3.out.cell 7
   have o7 := CO.out.cell 7
   have f7 := CO.out.free 7
   simp only [g0', gs'] at a7 o7
   obtain ⟨w9, hw9, C9, K9⟩ : ∃ w9, (w3.setCell ⟨po, 7, none⟩ (.int .i64 x_life)) = w9 ∧ Hid (Cl w9 po (.int .i64 3 :: .int .i64 x_frm :: .int .i64 x_to :: .int .i64 0 :: .int .i64 0 :: .int .i64 0 :: .int .i64 0 :: .int .i64 x_life :: zt8) 36) ∧ Hid (Keeps (fun j => j = po) w3 w9) :=
    ⟨_, rfl, (Cl.set CO.out 7 (.int .i64 x_life)), ((Keeps.refl (fun j => j = po) w3).trans (Keeps.setCell (fun j => j = po) _ ⟨po, 7, none⟩ (.int .i64 x_life) rfl))⟩
   clear CO CO3
   have a0 := CA3.out.cell 0
   simp only [List.getElem?_cons_zero] at a0
   go_wp2
   first | rw [hw9] | skip
   go_meet
   case rel => exact ⟨by rw [HL.out]; exact C9.out, Cl.keep CR3.out K9.out hpo, B3.out.trans (K9.out.toBelow B3.out.size (fun k hk e => by omega))⟩
  case rest =>
   obtain ⟨hC4, hR4, hB4⟩ := hcut
   generalize wc = w4 at *
   have CP := hq' hC4
   have CQ := hq' hR4
   have B4 := hq' hB4
   clear hC4 hR4 hB4 HL0 CO3 CA3 CR3 B3 a0
   have hpr : pr ≠ po := hpo
   have C9 : Hid (Cl (w4.setRow pr L.toArray) pr L 36) := by
    have := CQ.out.row L.toArray
    rwa [List.toList_toArray] at this
   have K9 : Hid (Keeps (fun j => j = pr) w4 (w4.setRow pr L.toArray)) := Keeps.row _ _ _ rfl
   have R4 := hq' CP.out.range
   have HU := hq' Tryz.underlying36
   go_wp2_with (first
    | (refine wpList_load_mid (by rfl) _ _ (by rfl) po 0 (by rfl) L _ R4.out HU.out (by rfl) HL38.out ?_)
    | (refine wpList_store_row (by rfl) _ _ _ (by rfl) pr L.toArray (by rfl) (by rfl) 36 _ CQ.out HL39.out HLSZ.out HLON.out ?_))
   have BF : Below w.heap.size w (w4.setRow pr L.toArray) := B4.out.trans (K9.out.toBelow B4.out.size (fun k hk e => by omega))
   refine bodyPost_ret (results_cl rfl _ _ _ _ _ _ rfl C9.out Tryz.underlying36 rfl HL38.out) rfl ?_
   exact ⟨rfl, BF⟩
open Go Go.RowKit
section
variable {P : Program} {ops : Array Oper} {md : Region.Mode} {C : Array Bool → World → Prop}
def sUpon (P : Program) (D : World → Prop) (v : Value) : Result Next → Prop
 | .ok (.value u) w' => D w' ∧ u = v
 | .ok .skip w' => D w' ∧ v = undef
 | .ok (.enter f args) w' => Calls P f args w' (fun e w'' => e = .returned v ∧ D w'')
 | _ => False
def listedAll : Nat → Nat → Array Bool → Array Bool
 | 0, _, L => L
 | n + 1, k, L => listedAll n (k + 1) (L.setIfInBounds k true)
theorem no_enter_v (s : Sem Value) (f : FuncId) (args : Array Value) (w w' : World) : (do pure (Next.value (← s)) : Sem Next).run P w ≠ .ok (.enter f args) w' := by
 simp only [Sem.run_bind, Sem.run_pure]
 cases s.run P w <;> simp [Result.andThen]
def AnyOf (C : Array Bool → World → Prop) : Type := {W : World // ∃ L, C L W}
end
def stL (sts : List (Nat × Nat × Value)) (L : Array Bool) (cs : List Value) : List Value := cs.mapIdx fun k c => match sts.find? (fun s => s.2.1 == k) with | some s => if L.getD s.1 false = true then s.2.2 else c | none => c
structure StC (w2 : World) (q : Nat) (t : TypeId) (n : Nat) (cs : List Value) (sts : List (Nat × Nat × Value)) (L : Array Bool) (W : World) : Prop where
 keep : Keeps (fun j => j = q) w2 W
 cl : Cl W q (stL sts L cs) t
 size : L.size = n
theorem StC.quiet {w2 : World} {q : Nat} {t : TypeId} {n : Nat} {cs : List Value} {sts : List (Nat × Nat × Value)} {L : Array Bool} {W : World} (h : StC w2 q t n cs sts L W) {i : Nat} (hi : sts.all (fun s => s.1 != i) = true) : StC w2 q t n cs sts (L.setIfInBounds i true) W := by
 refine ⟨h.keep, ?_, by rw [Array.size_setIfInBounds]; exact h.size⟩
 have : stL sts (L.setIfInBounds i true) cs = stL sts L cs := by
  unfold stL
  congr 1
  funext k c
  cases hf : sts.find? (fun s => s.2.1 == k) with
  | none => rfl
  | some s =>
   have hs := List.all_eq_true.1 hi s (List.mem_of_find?_eq_some hf)
   simp only [bne_iff_ne, ne_eq] at hs
   simp only
   rw [getD_set_ne false (fun e => hs e.symm)]
 rw [this]
 exact h.cl
theorem StC.store {w2 : World} {q : Nat} {t : TypeId} {n : Nat} {cs : List Value} {sts : List (Nat × Nat × Value)} {L : Array Bool} {W : World} (h : StC w2 q t n cs sts L W) {i off : Nat} {v : Value} (hin : i < n) (hf : sts.find? (fun s => s.2.1 == off) = some (i, off, v)) (hu : ∀ s ∈ sts, s.1 = i → s.2.1 = off) :
  StC w2 q t n cs sts (L.setIfInBounds i true) (W.setCell ⟨q, off, none⟩ v) := by
 refine ⟨h.keep.trans (Keeps.setCell _ _ _ _ rfl), ?_, by rw [Array.size_setIfInBounds]; exact h.size⟩
 have : stL sts (L.setIfInBounds i true) cs = (stL sts L cs).set off v := by
  apply List.ext_getElem?
  intro k
  unfold stL
  rw [List.getElem?_mapIdx, List.getElem?_set]
  by_cases e : off = k
  ·subst e
   rw [if_pos rfl, hf]
   have hL : (L.setIfInBounds i true).getD i false = true := by
    have : i < L.size := by rw [h.size]; exact hin
    simp [this]
   simp only [hL, if_true, List.length_mapIdx]
   by_cases hk : off < cs.length
   ·rw [if_pos hk, List.getElem?_eq_getElem hk]; rfl
   ·rw [if_neg hk, List.getElem?_eq_none (by omega)]; rfl
  ·rw [if_neg e, List.getElem?_mapIdx]
   cases cs[k]? with
   | none => rfl
   | some c =>
    simp only [Option.map_some]
    cases hg : sts.find? (fun s => s.2.1 == k) with
    | none => rfl
    | some s =>
     have h1 := List.find?_some hg
     simp only [beq_iff_eq] at h1
     have h2 : s.1 ≠ i := fun e2 => e ((hu s (List.mem_of_find?_eq_some hg) e2).symm.trans h1)
     simp only
     rw [getD_set_ne false (fun e => h2 e.symm)]
 rw [this]
 exact h.cl.set off v
theorem StC.cell {w2 : World} {q : Nat} {t : TypeId} {n : Nat} {cs : List Value} {sts : List (Nat × Nat × Value)} {L : Array Bool} {W : World} (h : StC w2 q t n cs sts L W) {p : Addr} {v : Value} (hp : w2.cell? p = some v) (hq : p.block ≠ q) : W.cell? p = some v :=
 (h.keep.cell (World.block_lt_of_cell? w2 _ hp) hq).trans hp
theorem StC.has {w2 : World} {q : Nat} {t : TypeId} {n : Nat} {cs : List Value} {sts : List (Nat × Nat × Value)} {L : Array Bool} {W : World} (h : StC w2 q t n cs sts L W) {off : Nat} (ho : off < cs.length) : ∃ u, W.cell? ⟨q, off, none⟩ = some u := by
 rw [h.cl.cell off]
 have : off < (stL sts L cs).length := by unfold stL; rw [List.length_mapIdx]; exact ho
 exact ⟨_, List.getElem?_eq_getElem this⟩
theorem StC.free {w2 : World} {q : Nat} {t : TypeId} {n : Nat} {cs : List Value} {sts : List (Nat × Nat × Value)} {L : Array Bool} {W : World} (h : StC w2 q t n cs sts L W) (off : Nat) : W.frozen? ⟨q, off, none⟩ = false := h.cl.free off
end Go.Proofs.YtjfpbeccpcbpcaaGreatDoor
