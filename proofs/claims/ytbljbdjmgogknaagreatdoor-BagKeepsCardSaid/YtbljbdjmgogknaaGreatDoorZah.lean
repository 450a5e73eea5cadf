/-
  Wq / Wu: texts of one proof, one behind the other.
  Conditions: none of its own.
-/
import Derived.Test.YtbljbdjmgogknaaGreatDoorZaa
import Derived.Test.YtbljbdjmgogknaaGreatDoorZad
import Derived.Test.YtbljbdjmgogknaaGreatDoorZae
import Derived.Test.YtbljbdjmgogknaaGreatDoorZag
set_option linter.unusedVariables false
set_option linter.unusedSimpArgs false
namespace Go.Proofs.YtbljbdjmgogknaaGreatDoor.Wi
open Bd (St bInt bText sInt sText sSign sMore sDone inR)
/-! ### Many of a kind, read -/
def sMany {α : Type} (f : St → α × St) : Nat → St → List α × St
 | 0, q => ([], q)
 | n + 1, q => if sMore q then ((f q).1 :: (sMany f n (f q).2).1, (sMany f n (f q).2).2) else ([], q)
def sAll {α : Type} (f : St → α × St) (q : St) : List α × St := sMany f (q.1.length + 1) q
def Shr {α : Type} (f : St → α × St) : Prop := ∀ q, sMore q = true → (f q).2.2 = true ∨ (f q).2.1.length < q.1.length
def At {α : Type} (f : St → α × St) (q0 : St) (acc : List α) (q : St) : Prop :=
 ∃ n, (q.2 = true ∨ q.1.length < n) ∧ sAll f q0 = (acc ++ (sMany f n q).1, (sMany f n q).2)
theorem At.start {α : Type} (f : St → α × St) (q : St) : At f q [] q := ⟨q.1.length + 1, .inr (by omega), by simp [sAll]⟩
theorem more_good {q : St} (h : sMore q = true) : q.2 = false ∧ q.1 ≠ [] ∧ q.1.head? ≠ some 101 := by
 obtain ⟨s, b⟩ := q
 cases b with
 | true => simp [sMore] at h
 | false =>
  cases s with
  | nil => simp [sMore] at h
  | cons c s => simpa [sMore] using h
theorem At.next {α : Type} {f : St → α × St} (hf : Shr f) {q0 q : St} {acc : List α} (h : At f q0 acc q) (hm : sMore q = true) : At f q0 (acc ++ [(f q).1]) (f q).2 := by
 obtain ⟨n, hn, he⟩ := h
 have hg := (more_good hm).1
 rw [hg] at hn
 have hl := hn.resolve_left (by simp)
 obtain ⟨m, rfl⟩ : ∃ m, n = m + 1 := ⟨n - 1, by omega⟩
 refine ⟨m, ?_, ?_⟩
 ·rcases hf q hm with h | h
  ·exact .inl h
  ·exact .inr (by omega)
 ·rw [he, sMany, if_pos hm]
  simp
theorem At.stop {α : Type} {f : St → α × St} {q0 q : St} {acc : List α} (h : At f q0 acc q) (hm : sMore q = false) : sAll f q0 = (acc, q) := by
 obtain ⟨n, hn, he⟩ := h
 rw [he]
 cases n with
 | zero => simp [sMany]
 | succ n => simp [sMany, hm]
theorem sMany_len {α : Type} {f : St → α × St} (hl : ∀ q, (f q).2.1.length ≤ q.1.length) : ∀ (n : Nat) (q : St), (sMany f n q).2.1.length ≤ q.1.length
 | 0, q => Nat.le_refl _
 | n + 1, q => by
  rw [sMany]
  split
  ·exact Nat.le_trans (sMany_len hl n _) (hl q)
  ·exact Nat.le_refl _
theorem At.len {α : Type} {f : St → α × St} (hf : Shr f) {q0 q : St} {acc : List α} (h : At f q0 acc q) : acc.length ≤ (sAll f q0).1.length := by
 obtain ⟨n, hn, he⟩ := h
 rw [he]
 simp
theorem sMany_all {α : Type} {f : St → α × St} {P : α → Prop} (hp : ∀ q, P (f q).1) : ∀ (n : Nat) (q : St), ∀ x ∈ (sMany f n q).1, P x
 | 0, q => by intro x hx; cases hx
 | n + 1, q => by
  rw [sMany]
  split
  ·intro x hx
   rcases List.mem_cons.1 hx with rfl | hx
   ·exact hp q
   ·exact sMany_all hp n _ x hx
  ·intro x hx; cases hx
theorem sMany_of {α : Type} {f : St → α × St} {e : α → List UInt8} (l : List α) (hx : ∀ x ∈ l, ∀ r, sMore (e x ++ r, false) = true ∧ f (e x ++ r, false) = (x, (r, false))) :
  ∀ (n : Nat) (r : List UInt8), l.length < n → sMore (r, false) = false → sMany f n ((l.map e).flatten ++ r, false) = (l, (r, false)) := by
 induction l with
 | nil =>
  intro n r hn hr
  obtain ⟨m, rfl⟩ : ∃ m, n = m + 1 := ⟨n - 1, by simp at hn; omega⟩
  simp [sMany, hr]
 | cons x l ih =>
  intro n r hn hr
  obtain ⟨m, rfl⟩ : ∃ m, n = m + 1 := ⟨n - 1, by simp at hn; omega⟩
  simp only [List.length_cons] at hn
  have e1 : ((x :: l).map e).flatten ++ r = e x ++ ((l.map e).flatten ++ r) := by simp
  obtain ⟨h1, h2⟩ := hx x (by simp) ((l.map e).flatten ++ r)
  rw [sMany, e1, if_pos h1, h2, ih (fun y hy => hx y (List.mem_cons_of_mem _ hy)) m r (by omega) hr]
theorem flat_len {α : Type} {e : α → List UInt8} (l : List α) (h : ∀ x ∈ l, 0 < (e x).length) : l.length ≤ ((l.map e).flatten).length := by
 induction l with
 | nil => simp
 | cons x l ih =>
  have := h x (by simp)
  have := ih (fun y hy => h y (List.mem_cons_of_mem _ hy))
  simp only [List.map_cons, List.flatten_cons, List.length_append, List.length_cons]
  omega
theorem more_len {s r : List UInt8} (h : sMore (s ++ r, false) = true) (hr : sMore (r, false) = false) : s ≠ [] := by
 rintro rfl
 rw [List.nil_append, hr] at h
 cases h
theorem sAll_of {α : Type} {f : St → α × St} {e : α → List UInt8} (l : List α) (hx : ∀ x ∈ l, ∀ r, sMore (e x ++ r, false) = true ∧ f (e x ++ r, false) = (x, (r, false))) (r : List UInt8) (hr : sMore (r, false) = false) :
  sAll f ((l.map e).flatten ++ r, false) = (l, (r, false)) := by
 refine sMany_of l hx _ r ?_ hr
 have := flat_len l (e := e) (fun x h => by
  have := more_len ((hx x h r).1) hr
  exact List.length_pos_iff.2 this)
 simp only [List.length_append]
 omega
theorem more_e (r : List UInt8) : sMore (101 :: r, false) = false := by simp [sMore]
/-! ### What can be -/
def reqB (q : Req) : Bool :=
 inB q.client 1 4 && (inB q.kind 1 8 && (areB 0 1099511627776 [q.n, q.part, q.seq, q.max, q.gen] && (inB q.off (-1099511627776) 1099511627776 && (q.recs.all (fun x => decide (x.off = 0)) &&
  (decide (q.group.length ≤ 8) && (decide (q.member.length ≤ 8) && (decide (q.recs.length = 0) || Cr.fits q.recs)))))))
def risingB : Int → List Cr.Rec → Bool
 | _, [] => true
 | p, x :: r => inB x.off 0 1099511627776 && (Cr.fits [x] && (decide (p < x.off) && risingB x.off r))
def respB (a : Resp) : Bool :=
 inB a.client 1 4 && (inB a.code 0 99 && (areB 0 1099511627776 [a.n, a.off, a.high, a.gen] && (decide (a.parts.length ≤ 4) && (areB 0 3 a.parts && (decide (a.recs.length ≤ 16) && risingB (-1) a.recs)))))
def lifeB (x : Int × Int) : Bool := inB x.1 1 5 && inB x.2 0 1073741824
def placeB (m : Msg) : Bool :=
 inB m.pep 0 1073741824 && (inB m.learner 0 5 && (decide (m.chain.length ≤ 5) && (areB 1 5 m.chain && (decide (m.lives.length ≤ 5) && m.lives.all lifeB))))
def slotB (x : Slot) : Bool := Cr.isNum x.1 && (Cr.isNum x.2.1 && (Cr.isNum x.2.2 && decide (x.2.1 < x.2.2)))
def nextB (p : Option Slot) (x : Slot) : Bool := match p with
 | none => true
 | some y => decide (x.1 = y.1 + 1) && decide (y.2.2 ≤ x.2.1)
def rowB : Option Slot → List Slot → Bool
 | _, [] => true
 | p, x :: r => slotB x && (nextB p x && rowB (some x) r)
def slotsB (l : List Slot) : Bool := rowB none l && (decide (1 ≤ l.length) && decide (l.length ≤ 5))
def aboveB (p : Option Int) (x : Int) : Bool := match p with
 | none => true
 | some y => decide (y < x)
def seensB : Option Int → List Seen → Bool
 | _, [] => true
 | p, x :: r => Cr.isNum x.1 && (aboveB p x.1 && (slotsB x.2 && seensB (some x.1) r))
def tableB (t : List Seen) : Bool := seensB none t && decide (t.length ≤ 64)
def first (m : Msg) : Bool := inB m.kind 1 9 && (unitB m.frm && (unitB m.to && (inB m.part 0 3 && (areB 0 1073741824 [m.ep, m.life] && (areB (-1) 1099511627776 [m.off, m.high] && same m (only m))))))
def lastB (m : Msg) : Bool :=
 if m.kind = 1 ∨ m.kind = 7 then reqB m.req else if m.kind = 2 then respB m.resp else if m.kind = 4 then placeB m else if m.kind = 5 then Cr.good m.batch else if m.kind = 8 then tableB m.table else true
def good (m : Msg) : Bool := first m && lastB m
/-! ### Bytes -/
def encInts (l : List Int) : List UInt8 := (l.map bInt).flatten
def listB (b : List UInt8) : List UInt8 := 108 :: (b ++ [101])
def encRec (x : Cr.Rec) : List UInt8 := bInt x.off ++ (bText x.key ++ (bText x.val ++ bInt (Cr.flag x.gone)))
def encRecs (l : List Cr.Rec) : List UInt8 := listB (l.map encRec).flatten
def encSlot (y : Slot) : List UInt8 := listB (bInt y.1 ++ (bInt y.2.1 ++ bInt y.2.2))
def encSeen (x : Seen) : List UInt8 := listB (bInt x.1 ++ (x.2.map encSlot).flatten)
def encTable (t : List Seen) : List UInt8 := listB (t.map encSeen).flatten
def flatLives (l : List (Int × Int)) : List Int := l.flatMap fun x => [x.1, x.2]
def reqNumsL (q : Req) : List Int := [q.client, q.n, q.kind, q.part, q.seq, q.off, q.max, q.gen]
def respNumsL (a : Resp) : List Int := [a.client, a.n, a.code, a.off, a.high, a.gen]
def tailL (m : Msg) : List (List UInt8) :=
 if m.kind = 1 ∨ m.kind = 7 then (reqNumsL m.req).map bInt ++ [bText m.req.group, bText m.req.member, encRecs m.req.recs]
 else if m.kind = 2 then (respNumsL m.resp).map bInt ++ [listB (encInts m.resp.parts), encRecs m.resp.recs]
 else if m.kind = 3 then [bInt m.life]
 else if m.kind = 4 then [bInt m.pep, listB (encInts m.chain), bInt m.learner, listB (encInts (flatLives m.lives))]
 else if m.kind = 5 then [bText (Cr.enc m.batch)]
 else if m.kind = 6 then [bInt m.off, bInt m.high]
 else if m.kind = 8 then [bInt m.off, bText (encTable m.table)]
 else if m.kind = 9 then [bInt m.off] else []
def headL (m : Msg) : List (List UInt8) := [m.kind, m.frm, m.to].map bInt ++ (if 4 ≤ m.kind then [m.part, m.ep].map bInt else [])
def fieldsL (m : Msg) : List (List UInt8) := headL m ++ tailL m
def enc (m : Msg) : List UInt8 := listB (fieldsL m).flatten
/-! ### Reading -/
def sRec4 (q : St) : (Cr.Rec × Bool) × St :=
 let o := sInt q
 let k := sText 16 o.2
 let v := sText 64 k.2
 let g := sInt v.2
 ((⟨o.1, k.1, v.1, g.1 == 1⟩, g.1 == Cr.flag (g.1 == 1)), g.2)
def sInts (q : St) : List Int × St := let r := sAll sInt (sSign 108 q); (r.1, sSign 101 r.2)
def sRecs (q : St) : (List Cr.Rec × Bool) × St := let r := sAll sRec4 (sSign 108 q); ((r.1.map (·.1), r.1.all (·.2)), sSign 101 r.2)
def sReq (q : St) : (Req × Bool) × St :=
 let a := sInt q
 let b := sInt a.2
 let c := sInt b.2
 let d := sInt c.2
 let e := sInt d.2
 let f := sInt e.2
 let g := sInt f.2
 let h := sInt g.2
 let i := sText 8 h.2
 let j := sText 8 i.2
 let r := sRecs j.2
 ((⟨a.1, b.1, c.1, d.1, e.1, f.1, g.1, h.1, i.1, j.1, r.1.1⟩, r.1.2), r.2)
def sResp (q : St) : (Resp × Bool) × St :=
 let a := sInt q
 let b := sInt a.2
 let c := sInt b.2
 let d := sInt c.2
 let e := sInt d.2
 let f := sInt e.2
 let p := sInts f.2
 let r := sRecs p.2
 ((⟨a.1, b.1, c.1, d.1, e.1, f.1, p.1, r.1.1⟩, r.1.2), r.2)
def pairs : List Int → List (Int × Int)
 | x :: y :: r => (x, y) :: pairs r
 | _ => []
def evenB (l : List Int) : Bool := l.length % 2 == 0
def sPlace (q : St) : ((Int × List Int × Int × List (Int × Int)) × Bool) × St :=
 let a := sInt q
 let c := sInts a.2
 let b := sInt c.2
 let l := sInts b.2
 (((a.1, c.1, b.1, if evenB l.1 then pairs l.1 else []), evenB l.1), l.2)
def sSlot (q : St) : Slot × St :=
 let a := sInt (sSign 108 q)
 let b := sInt a.2
 let c := sInt b.2
 ((a.1, b.1, c.1), sSign 101 c.2)
def sSeen (q : St) : Seen × St :=
 let a := sInt (sSign 108 q)
 let r := sAll sSlot a.2
 ((a.1, r.1), sSign 101 r.2)
def decTable (s : List UInt8) : Option (List Seen) :=
 let r := sAll sSeen (sSign 108 (s, false))
 if sDone (sSign 101 r.2) = 0 && tableB r.1 then some r.1 else none
def zMsg : Msg := ⟨0, 0, 0, 0, 0, 0, 0, 0, 0, [], 0, [], zBatch, [], zReq, zResp⟩
def sTail (m : Msg) (q : St) : (Msg × Bool) × St :=
 if m.kind = 1 ∨ m.kind = 7 then let r := sReq q; (({ m with req := r.1.1 }, r.1.2), r.2)
 else if m.kind = 2 then let r := sResp q; (({ m with resp := r.1.1 }, r.1.2), r.2)
 else if m.kind = 3 then let r := sInt q; (({ m with life := r.1 }, true), r.2)
 else if m.kind = 4 then let r := sPlace q; (({ m with pep := r.1.1.1, chain := r.1.1.2.1, learner := r.1.1.2.2.1, lives := r.1.1.2.2.2 }, r.1.2), r.2)
 else if m.kind = 5 then let r := sText 16384 q; (({ m with batch := (Cr.dec r.1).getD zBatch }, (Cr.dec r.1).isSome), r.2)
 else if m.kind = 6 then let r := sInt q; let h := sInt r.2; (({ m with off := r.1, high := h.1 }, true), h.2)
 else if m.kind = 8 then let o := sInt q; let r := sText 16384 o.2; (({ m with off := o.1, table := (decTable r.1).getD [] }, (decTable r.1).isSome), r.2)
 else if m.kind = 9 then let r := sInt q; (({ m with off := r.1 }, true), r.2)
 else ((m, true), q)
def sHead (q : St) : Msg × St :=
 let a := sInt q
 let b := sInt a.2
 let c := sInt b.2
 if 4 ≤ a.1 then
  let d := sInt c.2
  let e := sInt d.2
  ({ zMsg with kind := a.1, frm := b.1, «to» := c.1, part := d.1, ep := e.1 }, e.2)
 else ({ zMsg with kind := a.1, frm := b.1, «to» := c.1 }, c.2)
def sMsg (q : St) : (Msg × Bool) × St := sTail (sHead q).1 (sHead q).2
end Go.Proofs.YtbljbdjmgogknaaGreatDoor.Wi
namespace Go.Proofs.YtbljbdjmgogknaaGreatDoor
open Go.RowKit
theorem wwithin_any (n low high : Int) (w : World) : Calls Tryz.prog 68 #[.int .i64 n, .int .i64 low, .int .i64 high] w fun e w' => e = .returned (.bool (Wi.inB n low high)) ∧ w' = w := by
 unfold Wi.inB
 by_cases h0 : low ≤ n
 ·by_cases h1 : n ≤ high
  ·rw [show (decide (low ≤ n) && decide (n ≤ high)) = true by simp [h0, h1]]
   go_enter Tryz.func68, Tryz.ntmps68
   go_wp2
   go_ret
   exact ⟨by simp [h0, h1] <;> omega, rfl⟩
  ·rw [show (decide (low ≤ n) && decide (n ≤ high)) = false by simp [h0, h1]]
   go_enter Tryz.func68, Tryz.ntmps68
   go_wp2
   go_ret
   exact ⟨by simp [h0, h1] <;> omega, rfl⟩
 ·rw [show (decide (low ≤ n) && decide (n ≤ high)) = false by simp [h0]]
  go_enter Tryz.func68, Tryz.ntmps68
  go_wp2
  go_ret
  exact ⟨rfl, rfl⟩
theorem isUnit_any (n : Int) (w : World) : Calls Tryz.prog 69 #[.int .i64 n] w fun e w' => e = .returned (.bool (Wi.unitB n)) ∧ w' = w := by
 unfold Wi.unitB
 have H1 := Lib.hid (wwithin_any n 0 5 w)
 have H2 := Lib.hid (wwithin_any n 11 14 w)
 generalize Wi.inB n 0 5 = b1 at *
 generalize Wi.inB n 11 14 = b2 at *
 go_enter Tryz.func69, Tryz.ntmps69
 go_wp2_with fail
 refine H1.out.mono ?_
 rintro e w1 ⟨rfl, rfl⟩
 cases b1 with
 | true =>
  go_wp2
  go_ret
  exact ⟨rfl, rfl⟩
 | false =>
  go_wp2_with fail
  refine H2.out.mono ?_
  rintro e w2 ⟨rfl, rfl⟩
  go_wp2
  go_ret
  exact ⟨rfl, rfl⟩
def idxP {α : Type} (p : α → Bool) : Nat → List α → Int
 | _, [] => -1
 | k, x :: r => if p x then (k : Int) else idxP p (k + 1) r
theorem idxP_any {α : Type} (p : α → Bool) : ∀ (l : List α) (k : Nat), decide (0 ≤ idxP p k l) = l.any p
 | [], k => by simp [idxP]
 | x :: r, k => by
  unfold idxP
  cases h : p x with
  | true => simp [h]
  | false => simp only [Bool.false_eq_true, if_false, List.any_cons, h, Bool.false_or]; exact idxP_any p r (k + 1)
theorem idxP_step {α : Type} {p : α → Bool} {l : List α} {k : Nat} {x : α} (hx : l[k]? = some x) : idxP p k (l.drop k) = if p x then (k : Int) else idxP p (k + 1) (l.drop (k + 1)) := by
 obtain ⟨hk, rfl⟩ := List.getElem?_eq_some_iff.1 hx
 rw [List.drop_eq_getElem_cons hk]
 rfl
theorem are1_any (n lo hi : Int) (pl ph : Nat) (w : World) (h1 : Cl w pl [.int .i64 lo] 3) (h2 : Cl w ph [.int .i64 hi] 3) :
  Calls Tryz.prog 100 #[.int .i64 n, .pointer (some ⟨pl, 0, none⟩), .pointer (some ⟨ph, 0, none⟩)] w fun e w' => e = .returned (.bool (!Wi.inB n lo hi)) ∧ w' = w := by
 have H := Lib.hid (wwithin_any n lo hi w)
 have a0 := h1.cell 0
 have b0 := h2.cell 0
 simp only [List.getElem?_cons_zero, List.getElem?_cons_succ] at a0 b0
 generalize Wi.inB n lo hi = b1 at *
 clear h1 h2
 go_enter Tryz.func100, Tryz.ntmps100
 go_wp2_with fail
 refine H.out.mono ?_
 rintro e w1 ⟨rfl, rfl⟩
 cases b1 <;>
 ·go_wp2
  go_ret
  exact ⟨rfl, rfl⟩
set_option maxHeartbeats 800000 in
theorem idxInts_any (l : List Int) (hl : l.length ≤ maxLen) (v : Value) (lo hi : Int) (pl ph : Nat) (w : World) (h : Ints w v l) (h1 : Cl w pl [.int .i64 lo] 3) (h2 : Cl w ph [.int .i64 hi] 3) :
  Calls Tryz.prog 124 #[v, .func (.func 100) #[] #[.pointer (some ⟨pl, 0, none⟩), .pointer (some ⟨ph, 0, none⟩)]] w fun e w' => e = .returned (.int .i64 (idxP (fun n => !Wi.inB n lo hi) 0 l)) ∧ w' = w := by
 have HZ := Lib.hid h
 have H1 := Lib.hid h1
 have H2 := Lib.hid h2
 obtain ⟨a, cap, rfl⟩ := h.form
 unfold maxLen at hl
 clear h h1 h2
 go_enter Tryz.func124, Tryz.ntmps124
 go_wp2
 go_loop [8] (fun i => ∃ k : Nat, i = .int .i64 k ∧ k ≤ l.length ∧ idxP (fun n => !Wi.inB n lo hi) 0 l = idxP (fun n => !Wi.inB n lo hi) k (l.drop k)) (fun i => l.length - (intOf i).toNat)
 case atStart => exact ⟨0, rfl, by omega, rfl⟩
 case round =>
  obtain ⟨k, rfl, hk, hq⟩ := hrel
  have HQ := Lib.hid hq
  clear hq
  by_cases hlt : k < l.length
  ·obtain ⟨x, hx⟩ : ∃ x, l[k]? = some x := ⟨l[k], by simp [hlt]⟩
   have HS := Lib.hid (idxP_step (p := fun n => !Wi.inB n lo hi) hx)
   have HN := Lib.hid (are1_any x lo hi pl ph w H1.out H2.out)
   obtain ⟨g, off, cap', he, hg, p0⟩ := HZ.out.get (Below.refl _ _) hx
   injection he with he1 he2 he3
   subst he1 he3
   clear he2
   cases hb : Wi.inB x lo hi with
   | true =>
    rw [hb] at HN
    have HX : Hid (idxP (fun n => !Wi.inB n lo hi) 0 l = idxP (fun n => !Wi.inB n lo hi) (k + 1) (l.drop (k + 1))) := by rw [Hid, HQ.out, HS.out, hb]; rfl
    clear hb HS HQ
    go_wp2_with fail
    refine HN.out.mono ?_
    rintro e w5 ⟨rfl, rfl⟩
    go_wp2
    go_round
    case rel => exact ⟨k + 1, by go_num, by omega, HX.out⟩
    case measure => simp [intOf]; omega
   | false =>
    rw [hb] at HN
    have HX : Hid (idxP (fun n => !Wi.inB n lo hi) 0 l = (k : Int)) := by rw [Hid, HQ.out, HS.out, hb]; rfl
    clear hb HS HQ
    go_wp2_with fail
    refine HN.out.mono ?_
    rintro e w5 ⟨rfl, rfl⟩
    go_wp2
    go_ret
    exact ⟨by rw [HX.out]; rfl, rfl⟩
  ·obtain rfl : k = l.length := by omega
   have HX : Hid (idxP (fun n => !Wi.inB n lo hi) 0 l = -1) := by rw [Hid, HQ.out, List.drop_length]; rfl
   go_wp2
   go_ret
   exact ⟨by rw [HX.out]; rfl, rfl⟩
theorem any_not (low high : Int) (l : List Int) : (l.any fun n => !Wi.inB n low high) = !Wi.areB low high l := by
 unfold Wi.areB
 induction l with
 | nil => rfl
 | cons x r ih => rw [List.any_cons, List.all_cons, ih]; cases Wi.inB x low high <;> simp
theorem containsInts_any (l : List Int) (hl : l.length ≤ maxLen) (v : Value) (lo hi : Int) (pl ph : Nat) (w : World) (h : Ints w v l) (h1 : Cl w pl [.int .i64 lo] 3) (h2 : Cl w ph [.int .i64 hi] 3) :
  Calls Tryz.prog 99 #[v, .func (.func 100) #[] #[.pointer (some ⟨pl, 0, none⟩), .pointer (some ⟨ph, 0, none⟩)]] w fun e w' => e = .returned (.bool (!Wi.areB lo hi l)) ∧ w' = w := by
 have HI := Lib.hid (idxInts_any l hl v lo hi pl ph w h h1 h2)
 have hd := idxP_any (fun n => !Wi.inB n lo hi) l 0
 rw [any_not] at hd
 generalize idxP (fun n => !Wi.inB n lo hi) 0 l = r at *
 obtain ⟨a, cap, rfl⟩ := h.form
 have HD := Lib.hid hd
 clear h h1 h2 hl hd
 cases hb : Wi.areB lo hi l with
 | true =>
  rw [hb] at HD
  have hr : decide (0 ≤ r) = false := HD.out
  have hr2 : r < 0 := by simpa using hr
  go_enter Tryz.func99, Tryz.ntmps99
  go_wp2_with fail
  refine HI.out.mono ?_
  rintro e w1 ⟨rfl, rfl⟩
  go_wp2
  go_ret
  exact ⟨by simp [hr2], rfl⟩
 | false =>
  rw [hb] at HD
  have hr : decide (0 ≤ r) = true := HD.out
  have hr2 : 0 ≤ r := by simpa using hr
  go_enter Tryz.func99, Tryz.ntmps99
  go_wp2_with fail
  refine HI.out.mono ?_
  rintro e w1 ⟨rfl, rfl⟩
  go_wp2
  go_ret
  exact ⟨by simp [hr2], rfl⟩
theorem are_sz (l : List Int) (hl : l.length ≤ maxLen) (v : Value) (lo hi : Int) (w : World) (h : Ints w v l) :
  Calls Tryz.prog 70 #[.int .i64 lo, .int .i64 hi, v] w fun e w' => e = .returned (.bool (Wi.areB lo hi l)) ∧ Below w.heap.size w w' ∧ w'.heap.size = w.heap.size + 2 := by
 have C1 : Hid (Cl (w.alloc (.cells #[.int .i64 lo] 3)) w.heap.size [.int .i64 lo] 3) := Cl.new w _ _
 have C2 : Hid (Cl ((w.alloc (.cells #[.int .i64 lo] 3)).alloc (.cells #[.int .i64 hi] 3)) (w.heap.size + 1) [.int .i64 hi] 3) := by
  have h := Cl.new (w.alloc (.cells #[.int .i64 lo] 3)) [.int .i64 hi] 3
  rw [World.size_alloc] at h
  exact h
 have C3 : Hid (Cl ((w.alloc (.cells #[.int .i64 lo] 3)).alloc (.cells #[.int .i64 hi] 3)) w.heap.size [.int .i64 lo] 3) := C1.out.alloc _
 have B2 : Hid (Below w.heap.size w ((w.alloc (.cells #[.int .i64 lo] 3)).alloc (.cells #[.int .i64 hi] 3))) := ((Below.refl _ _).alloc (Nat.le_refl _) _).alloc (by simp) _
 have HC := Lib.hid (containsInts_any l hl v lo hi w.heap.size (w.heap.size + 1) _ (h.kept B2.out) C3.out C2.out)
 obtain ⟨a, cap, rfl⟩ := h.form
 generalize Wi.areB lo hi l = b at *
 clear h hl C1 C2 C3
 go_enter Tryz.func70, Tryz.ntmps70
 go_wp2_with fail
 refine HC.out.mono ?_
 rintro e w3 ⟨rfl, rfl⟩
 cases b <;>
 ·go_wp2
  go_ret
  exact ⟨rfl, B2.out, by simp⟩
theorem are_any (l : List Int) (hl : l.length ≤ maxLen) (v : Value) (lo hi : Int) (w : World) (h : Ints w v l) :
  Calls Tryz.prog 70 #[.int .i64 lo, .int .i64 hi, v] w fun e w' => e = .returned (.bool (Wi.areB lo hi l)) ∧ Below w.heap.size w w' :=
 (are_sz l hl v lo hi w h).mono fun e w' ⟨he, hb, _⟩ => ⟨he, hb⟩
end Go.Proofs.YtbljbdjmgogknaaGreatDoor
