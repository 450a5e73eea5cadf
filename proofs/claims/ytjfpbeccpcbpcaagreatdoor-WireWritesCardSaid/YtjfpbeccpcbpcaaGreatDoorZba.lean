/-
  Wm7 / Wm8 / Wn0 / Wn1 / Wn2 / Wn3 / Wn4 / Wn5 / Wn6 / Wn7 / Wn8 / Wn9 / Wn10 / Wna / Ast / Frma: texts of one proof, one behind the other.
  Conditions: none of its own.
-/
import Derived.Test.YtjfpbeccpcbpcaaGreatDoorZab
import Derived.Test.YtjfpbeccpcbpcaaGreatDoorZau
import Derived.Test.YtjfpbeccpcbpcaaGreatDoorZav
import Derived.Test.YtjfpbeccpcbpcaaGreatDoorZaz
import Derived.Deep.AppendLies
set_option linter.unusedVariables false
set_option linter.unusedSimpArgs false
namespace Go.Proofs.YtjfpbeccpcbpcaaGreatDoor
open Go.RowKit
theorem flatMap_get {α β : Type} (f : α → List β) (sz : Nat) (hf : ∀ x, (f x).length = sz) : ∀ (l : List α) (i : Nat) (x : α) (j : Nat) (u : β), l[i]? = some x → (f x)[j]? = some u → (l.flatMap f)[i * sz + j]? = some u
 | [], i, x, j, u, h, _ => by simp at h
 | y :: r, 0, x, j, u, h, hu => by
  simp only [List.getElem?_cons_zero, Option.some.injEq] at h
  subst h
  have hj : j < (f y).length := (List.getElem?_eq_some_iff.1 hu).1
  rw [List.flatMap_cons, Nat.zero_mul, Nat.zero_add, List.getElem?_append_left hj, hu]
 | y :: r, i + 1, x, j, u, h, hu => by
  have h' : r[i]? = some x := by simpa using h
  have e : (i + 1) * sz + j = sz + (i * sz + j) := by rw [Nat.add_mul]; omega
  rw [List.flatMap_cons, e, List.getElem?_append_right (by rw [hf y]; omega), hf y, Nat.add_sub_cancel_left]
  exact flatMap_get f sz hf r i x j u h' hu
theorem rw_own {α : Type} {sz : Nat} {f : α → List Value} (hf : ∀ x, (f x).length = sz) (hp : 0 < sz) {w : World} {b : Nat} {e : TypeId} {v : Value} {l : List α} (h : w.ownsRow b e sz v l.length (l.flatMap f)) : Rw sz f w v l := by
 have hh := h
 rcases h.2 with ⟨rfl, h0⟩ | ⟨g, cap, cur, rfl, hB, hg, r⟩
 ·exact ⟨none, 0, by rw [h0], fun i x hx => by have := (List.getElem?_eq_some_iff.1 hx).1; omega⟩
 ·refine ⟨_, cap, rfl, fun i x hx => ⟨g, 0, rfl, (Array.getElem?_eq_some_iff.1 hg).1, fun j u hu => ?_⟩⟩
  have := hh.cells (g := g) rfl (i * sz + j) u (flatMap_get f sz hf l i x j u hx hu)
  rw [Addr.add_mid] at this
  rw [Nat.zero_add] at this ⊢
  exact this
def slotCells (l : List Wi.Slot) : List Value := l.flatMap slotC
def tabCells (l : List (Wi.Seen × Value)) : List Value := l.flatMap fun y => [.int .i64 y.1.1, y.2]
def TabO (w : World) (B : Nat) (v : Value) (t : List Wi.Seen) : Prop :=
 ∃ acc : List (Wi.Seen × Value), acc.map (·.1) = t ∧ w.ownsRow B 57 2 v acc.length (tabCells acc) ∧ ∀ y ∈ acc, w.ownsRow B 113 3 y.2 y.1.2.length (slotCells y.1.2)
theorem TabO.tbl {w : World} {B : Nat} {v : Value} {t : List Wi.Seen} (h : TabO w B v t) : Tbl w v t := by
 obtain ⟨acc, rfl, ho, hs⟩ := h
 have hh := ho
 rcases ho.2 with ⟨rfl, h0⟩ | ⟨g, cap, cur, rfl, hB, hg, r⟩
 ·exact ⟨none, 0, by rw [List.length_map, h0], fun i x hx => by have := (List.getElem?_eq_some_iff.1 hx).1; rw [List.length_map] at this; omega⟩
 ·refine ⟨_, cap, by rw [List.length_map], fun i x hx => ?_⟩
  rw [List.getElem?_map] at hx
  obtain ⟨y, hy, rfl⟩ := Option.map_eq_some_iff.1 hx
  have hc : ∀ j u, ([.int .i64 y.1.1, y.2] : List Value)[j]? = some u → w.cell? ⟨g, 0 + i * 2 + j, none⟩ = some u := fun j u hu => by
   have := hh.cells (g := g) rfl (i * 2 + j) u (flatMap_get (fun y : Wi.Seen × Value => ([.int .i64 y.1.1, y.2] : List Value)) 2 (fun _ => rfl) acc i y j u hy hu)
   rw [Addr.add_mid] at this
   rw [Nat.add_assoc]
   exact this
  exact ⟨g, 0, y.2, rfl, (Array.getElem?_eq_some_iff.1 hg).1, hc 0 _ rfl, hc 1 _ rfl, rw_own (f := slotC) (fun _ => rfl) (by decide) (hs y (List.mem_of_getElem? hy))⟩
def LedR (w : World) (o : Option (List Wi.Seen)) (e : Ending) (w' : World) : Prop :=
 ∃ v, e = .returned (.tuple #[v, .int .i64 (if o.isSome then 0 else 3)]) ∧ TabO w' w.heap.size v (o.getD []) ∧ TabOk (o.getD []) ∧ Below w.heap.size w w'
theorem LedR.no {w w' : World} (h : Below w.heap.size w w') : LedR w none (.returned (.tuple #[.slice none 0 0, .int .i64 3])) w' :=
 ⟨_, rfl, ⟨[], rfl, ⟨rfl, .inl ⟨rfl, rfl⟩⟩, fun y hy => by cases hy⟩, ⟨by unfold maxLen; exact Nat.zero_le _, fun x hx => by cases hx⟩, h⟩
end Go.Proofs.YtjfpbeccpcbpcaaGreatDoor
namespace Go.Proofs.YtjfpbeccpcbpcaaGreatDoor
open Go.RowKit
theorem zBat_ok : BatOk Wi.zBatch := ⟨⟨by decide, by decide⟩, ⟨by decide, by decide⟩, ⟨by decide, by decide⟩, ⟨by decide, by decide⟩, ⟨by decide, by decide⟩, Nat.zero_le _, fun x hx => by cases hx⟩
theorem zTab_ok : TabOk [] := ⟨Nat.zero_le _, fun x hx => by cases hx⟩
theorem zReq_ok : ReqOk Wi.zReq := ⟨⟨⟨by decide, by decide⟩, ⟨by decide, by decide⟩, ⟨by decide, by decide⟩, ⟨by decide, by decide⟩, ⟨by decide, by decide⟩, ⟨by decide, by decide⟩, ⟨by decide, by decide⟩, ⟨by decide, by decide⟩⟩, Nat.zero_le _, Nat.zero_le _, Nat.zero_le _, fun x hx => by cases hx⟩
theorem zResp_ok : RespOk Wi.zResp := ⟨⟨⟨by decide, by decide⟩, ⟨by decide, by decide⟩, ⟨by decide, by decide⟩, ⟨by decide, by decide⟩, ⟨by decide, by decide⟩, ⟨by decide, by decide⟩⟩, ⟨Nat.zero_le _, fun x hx => by cases hx⟩, Nat.zero_le _, fun x hx => by cases hx⟩
theorem msgOk_of {m : Wi.Msg} (h : ∀ x ∈ [m.kind, m.frm, m.to, m.part, m.ep, m.off, m.high, m.life, m.pep, m.learner], Bd.inR x) (c : m.chain.length ≤ maxLen ∧ ∀ x ∈ m.chain, Bd.inR x) (l : m.lives.length ≤ maxLen ∧ ∀ x ∈ m.lives, Bd.inR x.1 ∧ Bd.inR x.2)
  (b : BatOk m.batch) (t : TabOk m.table) (q : ReqOk m.req) (a : RespOk m.resp) : MsgOk m := by
 obtain ⟨⟨q0, q1, q2, q3, q4, q5, q6, q7⟩, q8, q9, q10, q11⟩ := q
 obtain ⟨⟨a0, a1, a2, a3, a4, a5⟩, a6, a7, a8⟩ := a
 simp only [List.mem_cons, List.not_mem_nil, or_false, forall_eq_or_imp, forall_eq] at h
 obtain ⟨h0, h1, h2, h3, h4, h5, h6, h7, h8, h9⟩ := h
 refine ⟨?_, c, l, b, t, ⟨q8, q9, q10, q11⟩, a6, ⟨a7, a8⟩⟩
 simp only [List.mem_cons, List.not_mem_nil, or_false, forall_eq_or_imp, forall_eq]
 exact ⟨h0, h1, h2, h3, h4, h5, h6, h7, h8, h9, q0, q1, q2, q3, q4, q5, q6, q7, a0, a1, a2, a3, a4, a5⟩
structure MsgO (w : World) (B : Nat) (m : Wi.Msg) (v : MsgV) : Prop where
 chain : w.ownsRow B 3 1 v.chain m.chain.length (iv m.chain)
 lives : w.ownsRow B 64 2 v.lives m.lives.length (lifeCells m.lives)
 brecs : w.ownsRow B 107 4 v.brecs m.batch.recs.length (recCells m.batch.recs)
 table : TabO w B v.table m.table
 qrecs : w.ownsRow B 107 4 v.qrecs m.req.recs.length (recCells m.req.recs)
 parts : w.ownsRow B 3 1 v.parts m.resp.parts.length (iv m.resp.parts)
 arecs : w.ownsRow B 107 4 v.arecs m.resp.recs.length (recCells m.resp.recs)
theorem MsgO.at {w : World} {B : Nat} {m : Wi.Msg} {v : MsgV} (h : MsgO w B m v) : MsgAt w m v :=
 ⟨ints_own h.chain, rw_own (f := lifeC) (fun _ => rfl) (by decide) h.lives, (Sl.ofOwn h.brecs).recs, h.table.tbl, (Sl.ofOwn h.qrecs).recs, ints_own h.parts, (Sl.ofOwn h.arecs).recs⟩
theorem MsgO.cap {w : World} {B : Nat} {m : Wi.Msg} {v : MsgV} (h : MsgO w B m v) : CapOk v.arecs := by
 intro a n cap hv
 rcases h.arecs.2 with ⟨e, _⟩ | ⟨g, cap', cur, e, _, _, hc, _⟩
 ·rw [hv] at e; injection e with e1 e2 e3; omega
 ·rw [hv] at e; injection e with e1 e2 e3; omega
theorem own_nil (w : World) (B : Nat) (e : TypeId) (size : Nat) : w.ownsRow B e size (.slice none 0 0) 0 [] := ⟨by rw [Nat.zero_mul]; rfl, .inl ⟨rfl, rfl⟩⟩
theorem tab_nil (w : World) (B : Nat) : TabO w B (.slice none 0 0) [] := ⟨[], rfl, own_nil w B _ _, fun y hy => by cases hy⟩
end Go.Proofs.YtjfpbeccpcbpcaaGreatDoor
namespace Go.Proofs.YtjfpbeccpcbpcaaGreatDoor
open Go.RowKit
end Go.Proofs.YtjfpbeccpcbpcaaGreatDoor
namespace Go.Proofs.YtjfpbeccpcbpcaaGreatDoor
open Go.RowKit
end Go.Proofs.YtjfpbeccpcbpcaaGreatDoor
namespace Go.Proofs.YtjfpbeccpcbpcaaGreatDoor
open Go.RowKit
end Go.Proofs.YtjfpbeccpcbpcaaGreatDoor
namespace Go.Proofs.YtjfpbeccpcbpcaaGreatDoor
open Go.RowKit
end Go.Proofs.YtjfpbeccpcbpcaaGreatDoor
namespace Go.Proofs.YtjfpbeccpcbpcaaGreatDoor
open Go.RowKit
end Go.Proofs.YtjfpbeccpcbpcaaGreatDoor
namespace Go.Proofs.YtjfpbeccpcbpcaaGreatDoor
open Go.RowKit
end Go.Proofs.YtjfpbeccpcbpcaaGreatDoor
namespace Go.Proofs.YtjfpbeccpcbpcaaGreatDoor
open Go.RowKit
end Go.Proofs.YtjfpbeccpcbpcaaGreatDoor
namespace Go.Proofs.YtjfpbeccpcbpcaaGreatDoor
open Go.RowKit
end Go.Proofs.YtjfpbeccpcbpcaaGreatDoor
namespace Go.Proofs.YtjfpbeccpcbpcaaGreatDoor
open Go.RowKit
end Go.Proofs.YtjfpbeccpcbpcaaGreatDoor
namespace Go.Proofs.YtjfpbeccpcbpcaaGreatDoor
open Go.RowKit
end Go.Proofs.YtjfpbeccpcbpcaaGreatDoor
namespace Go.Proofs.YtjfpbeccpcbpcaaGreatDoor
open Go.RowKit
end Go.Proofs.YtjfpbeccpcbpcaaGreatDoor
namespace Go.Proofs.YtjfpbeccpcbpcaaGreatDoor
open Go.RowKit
end Go.Proofs.YtjfpbeccpcbpcaaGreatDoor
namespace Go.Proofs.YtjfpbeccpcbpcaaGreatDoor
open Go.RowKit
theorem Keeps.fresh {S T : Nat → Prop} {a b c : World} (h : Keeps S a b) (k : Keeps T b c) (hT : ∀ k, k < a.heap.size → T k → S k) : Keeps S a c :=
 ⟨k.os.trans h.os, k.tape.trans h.tape, k.output.trans h.output, Nat.le_trans h.size k.size, fun i hi hs => (k.block i (Nat.lt_of_lt_of_le hi h.size) (fun ht => hs (hT i hi ht))).trans (h.block i hi hs)⟩
end Go.Proofs.YtjfpbeccpcbpcaaGreatDoor
namespace Go.Proofs.YtjfpbeccpcbpcaaGreatDoor.Frm
open Crc
theorem put_length (l : List UInt8) : (put l).length = 8 + l.length := by simp [put, four_length]; omega
theorem put_head (l : List UInt8) (h : l.length ≤ 16384) (r : List UInt8) : num (put l ++ r) = BitVec.ofNat 32 l.length := by
 have := num_four (BitVec.ofNat 32 l.length)
 unfold put
 unfold four at this ⊢
 simpa [num] using this
theorem put_check (l r : List UInt8) : num ((put l ++ r).drop 4) = sum l := by
 have := num_four (sum l)
 unfold put
 unfold four at this ⊢
 simpa [num] using this
theorem put_body (l r : List UInt8) : ((put l ++ r).take (8 + l.length)).drop 8 = l := by
 have : (put l ++ r).take (8 + l.length) = put l := by
  rw [List.take_append_of_le_length (by rw [put_length]; omega), List.take_of_length_le (by rw [put_length]; omega)]
 rw [this]
 rfl
theorem next_put (l r : List UInt8) (h : l.length ≤ 16384) : next (put l ++ r) ((0 : Nat) : Int) = (l, ((8 + l.length : Nat) : Int), 0) := by
 have hn : (num ((put l ++ r).drop 0)).toNat = l.length := by
  rw [List.drop_zero, put_head l h r, BitVec.toNat_ofNat]; omega
 have hl : (put l ++ r).length = 8 + l.length + r.length := by rw [List.length_append, put_length]
 have hb : (((put l ++ r).drop 0).take (8 + (num ((put l ++ r).drop 0)).toNat)).drop 8 = l := by rw [hn, List.drop_zero]; exact put_body l r
 rw [next_ok (l := put l ++ r) (k := 0) (by omega) (by omega) (by omega) (by omega) (by rw [hb]; rw [List.drop_zero]; exact (put_check l r).symm), hb, hn]
 simp
end Go.Proofs.YtjfpbeccpcbpcaaGreatDoor.Frm
