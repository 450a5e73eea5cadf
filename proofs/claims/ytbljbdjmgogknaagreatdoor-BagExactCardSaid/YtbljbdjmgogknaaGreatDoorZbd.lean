/-
  Gp: texts of one proof, one behind the other.
  Conditions: none of its own.
-/
import Derived.Test.YtbljbdjmgogknaaGreatDoorZbc
set_option linter.unusedVariables false
set_option linter.unusedSimpArgs false
namespace Go.Proofs.YtbljbdjmgogknaaGreatDoor
open Go.RowKit
def mIt (m : Wi.Msg) : Item := (Frm.put (Wi.enc m),m.to)
theorem wencode_yes' {m : Wi.Msg} (hg : Wi.good m = true) : wencR m = .tuple #[.string ⟨(Frm.put (Wi.enc m)).toArray⟩,.int .i64 0] := by unfold wencR; rw [if_pos hg]
theorem wencode_no' {m : Wi.Msg} (hg : Wi.good m = false) : wencR m = .tuple #[.string ⟨#[]⟩,.int .i64 1] := by unfold wencR; rw [hg]; rfl
theorem bagPut_m (x : MX) (cs : List Value) (hcs : mxC x = cs) (B pb : Nat) (lv : Value) (l : List Item) (w : World) (h : BagW w B pb lv l) (hB : B ≤ w.heap.size) (hm : MsgAt w x.m x.v) (ok : MxOk x) (hg : Wi.good x.m = true) (hw : Lw w) :
  Calls Tryz.prog 10 #[.pointer (some ⟨pb,0,none⟩),.agg cs.toArray] w (PutPost B pb lv l (mIt x.m) w) := by
 subst hcs
 refine bagPut_cs (mxC x) rfl x.m.to rfl B pb lv l _ w h hB (fun W hW => ?_)
 have := wencode_any x.m x.v W (hm.kept hW) ok.1 ok.2 (hw.below hW)
 rw [wencode_yes' hg] at this
 exact this
theorem bagPut_bad (x : MX) (cs : List Value) (hcs : mxC x = cs) (B pb : Nat) (lv : Value) (l : List Item) (w : World) (h : BagW w B pb lv l) (hB : B ≤ w.heap.size) (hm : MsgAt w x.m x.v) (ok : MxOk x) (hg : Wi.good x.m = false) (hw : Lw w) :
  Calls Tryz.prog 10 #[.pointer (some ⟨pb,0,none⟩),.agg cs.toArray] w fun e w' => e = .returned (.int .i64 1) ∧ BagW w' B pb lv l ∧ Below w.heap.size w w' := by
 subst hcs
 refine bagPut_no (mxC x) rfl B pb lv l w h hB (fun W hW => ?_)
 have := wencode_any x.m x.v W (hm.kept hW) ok.1 ok.2 (hw.below hW)
 rw [wencode_no' hg] at this
 exact this
def TkPost (B pb : Nat) (lv : Value) (l : List Item) (m : Wi.Msg) (w : World) (e : Ending) (w' : World) : Prop :=
 ∃ v lv',e = .returned (.tuple #[.agg (msgC m v).toArray,.bool true]) ∧ MsgAt w' m v ∧ MsgOk m ∧ BagW w' B pb lv' l ∧ BagK pb lv lv' w w'
theorem bagTake_m (B pb : Nat) (lv : Value) (l : List Item) (k : Nat) (m : Wi.Msg) (hx : l[k]? = some (mIt m)) (hg : Wi.good m = true) (w : World) (h : BagW w B pb lv l) (hB : B ≤ w.heap.size) (hw : Lw w) :
  Calls Tryz.prog 12 #[.pointer (some ⟨pb,0,none⟩),.int .i64 k] w (TkPost B pb lv (l.eraseIdx k) m w) := by
 refine (bagTake_any B pb lv l k _ hx (fun cs b => ∃ v,cs = msgC m v ∧ MsgAt b m v ∧ MsgOk m) w h hB (fun W hW => ?_)).mono ?_
 ·have hl := Wi.enc_le hg
  have hp := Frm.put_length (Wi.enc m)
  have := wdecode_any (Frm.put (Wi.enc m)) (by omega) W (hw.below hW)
  rw [decM_put hg] at this
  refine this.mono ?_
  rintro e w' ⟨v,rfl,hmo,hok,hb⟩
  simp only [Option.getD_some] at hmo hok
  have hone := msg_one hmo.at
  refine ⟨msgC m v,rfl,rfl,by simpa using hone,hb,fun S b hk hs => ⟨v,rfl,?_,hok⟩⟩
  exact (hmo.keepsS (S := fun j => S j ∧ j < w'.heap.size) (hk.mono (fun j hj e => ⟨e,hj⟩)) (fun j hj e => hs j hj e.2 e.1)).at
 ·rintro e w' ⟨cs,lv',rfl,⟨v,rfl,h1,h2⟩,h3,h4⟩
  exact ⟨v,lv',rfl,h1,h2,h3,h4⟩
def itsX (L : List MX) : List Item := L.map fun x => mIt x.m
def cellsX (L : List MX) : List Value := L.flatMap mxC
theorem itsX_len (L : List MX) : (itsX L).length = L.length := by simp [itsX]
theorem itsX_snoc (L : List MX) (x : MX) : itsX (L ++ [x]) = itsX L ++ [mIt x.m] := by simp [itsX]
theorem itsX_erase (L : List MX) (k : Nat) : (itsX L).eraseIdx k = itsX (L.eraseIdx k) := by
 simp only [itsX,List.eraseIdx_eq_take_drop_succ,List.map_append,List.map_take,List.map_drop]
theorem cellsX_len (L : List MX) : (cellsX L).length = L.length * 38 := by
 induction L with
 | nil => rfl
 | cons x L ih =>
  have e : cellsX (x::L) = mxC x ++ cellsX L := rfl
  rw [e,List.length_append,mxC_len,ih,List.length_cons]
  omega
theorem cellsX_snoc (L : List MX) (x : MX) : cellsX (L ++ [x]) = cellsX L ++ mxC x := by simp [cellsX]
theorem cellsX_append (L M : List MX) : cellsX (L ++ M) = cellsX L ++ cellsX M := by simp [cellsX]
theorem cellsX_erase (L : List MX) (k : Nat) : cellsX (L.eraseIdx k) = cellsX (L.take k) ++ cellsX (L.drop (k + 1)) := by
 rw [List.eraseIdx_eq_take_drop_succ,cellsX_append]
theorem cellsX_at (L : List MX) : ∀ (k : Nat) (x : MX),L[k]? = some x → ∀ j u,(mxC x)[j]? = some u → (cellsX L)[k * 38 + j]? = some u := by
 induction L with
 | nil => intro k x h; simp at h
 | cons y L ih =>
  intro k x h j u hj
  have e : cellsX (y::L) = mxC y ++ cellsX L := rfl
  rw [e]
  cases k with
  | zero =>
   simp only [List.getElem?_cons_zero,Option.some.injEq] at h
   subst h
   have := (List.getElem?_eq_some_iff.1 hj).1
   rw [Nat.zero_mul,Nat.zero_add,List.getElem?_append_left this]
   exact hj
  | succ k =>
   have := ih k x (by simpa using h) j u hj
   rw [List.getElem?_append_right (by rw [mxC_len]; omega),mxC_len,show (k + 1) * 38 + j - 38 = k * 38 + j by omega]
   exact this
theorem cellsX_take (L : List MX) (k : Nat) (hk : k ≤ L.length) (j : Nat) (u : Value) (h : (cellsX (L.take k))[j]? = some u) : (cellsX L)[j]? = some u := by
 have e : cellsX L = cellsX (L.take k) ++ cellsX (L.drop k) := by rw [← cellsX_append,List.take_append_drop]
 rw [e,List.getElem?_append_left (List.getElem?_eq_some_iff.1 h).1]
 exact h
theorem cellsX_drop (L : List MX) (k : Nat) (hk : k ≤ L.length) (j : Nat) (u : Value) (h : (cellsX (L.drop k))[j]? = some u) : (cellsX L)[k * 38 + j]? = some u := by
 have e : cellsX L = cellsX (L.take k) ++ cellsX (L.drop k) := by rw [← cellsX_append,List.take_append_drop]
 have hl : (cellsX (L.take k)).length = k * 38 := by rw [cellsX_len,List.length_take]; congr 1; omega
 rw [e,List.getElem?_append_right (by omega),hl,show k * 38 + j - k * 38 = j by omega]
 exact h
theorem cellsX_one (w : World) (L : List MX) (h : ∀ x ∈ L,MsgAt w x.m x.v) : ∀ u ∈ cellsX L,u.oneCell' = true := by
 intro u hu
 obtain ⟨x,hx,hu⟩ := List.mem_flatMap.1 hu
 exact msg_one (h x hx) u hu
structure KsW (w0 w : World) (pb : Nat) (lv wv : Value) (L : List MX) : Prop where
 h : BagW w w0.heap.size pb lv (itsX L)
 s : Sl w w0.heap.size 38 wv L.length (cellsX L)
 ap : ∀ j,wv.ownBlock = some j → Apart pb lv j
 bel : Below w0.heap.size w0 w
theorem KsW.below {w0 w w' : World} {pb : Nat} {lv wv : Value} {L : List MX} (c : KsW w0 w pb lv wv L) (b : Below w.heap.size w w') : KsW w0 w' pb lv wv L :=
 ⟨c.h.below b,c.s.kept (Keeps.below (fun _ => False) b) (fun _ _ => id),c.ap,bt c.bel b⟩
structure KsB (w0 w : World) (pb : Nat) (lv wv : Value) (I : List Item) (L : List MX) : Prop where
 h : BagW w w0.heap.size pb lv I
 s : Sl w w0.heap.size 38 wv L.length (cellsX L)
 ap : ∀ j,wv.ownBlock = some j → Apart pb lv j
 bel : Below w0.heap.size w0 w
theorem KsB.below {w0 w w' : World} {pb : Nat} {lv wv : Value} {I : List Item} {L : List MX} (c : KsB w0 w pb lv wv I L) (b : Below w.heap.size w w') : KsB w0 w' pb lv wv I L :=
 ⟨c.h.below b,c.s.kept (Keeps.below (fun _ => False) b) (fun _ _ => id),c.ap,bt c.bel b⟩
theorem KsW.bag {w0 w w' : World} {pb : Nat} {lv lv' wv : Value} {I : List Item} {L : List MX} (c : KsW w0 w pb lv wv L) (h : BagW w' w0.heap.size pb lv' I) (k : BagK pb lv lv' w w') : KsB w0 w' pb lv' wv I L :=
 ⟨h,c.s.kept k.k (fun j hj e => by
  rcases e with e | e
  ·exact (c.ap j hj).b e.symm
  ·exact (c.ap j hj).n j e rfl),fun j hj => (c.ap j hj).next k (c.s.lt j hj).2,c.bel.trans (k.below c.h c.bel.size)⟩
theorem KsB.put {w0 w w' : World} {pb : Nat} {lv wv wv' : Value} {L L' : List MX} (c : KsB w0 w pb lv wv (itsX L') L) (k : Keeps (fun j => wv.ownBlock = some j) w w') (s : Sl w' w0.heap.size 38 wv' L'.length (cellsX L'))
  (n : ∀ j,wv'.ownBlock = some j → wv.ownBlock = some j ∨ w.heap.size ≤ j) : KsW w0 w' pb lv wv' L' :=
 ⟨c.h.keep k (fun e => (c.ap pb e).b rfl) (fun j hj e => (c.ap j e).n j hj rfl),s,fun j hj => by
  rcases n j hj with e | e
  ·exact c.ap j e
  ·exact c.h.apart e,c.bel.trans (k.toBelow c.bel.size (fun j hj e => by have := (c.s.lt j e).1; omega))⟩
theorem srcXA {w : World} {g off k cap n : Nat} {L : List MX} (hr : ∀ j u,(cellsX L)[j]? = some u → w.cell? ⟨g,off + j,none⟩ = some u) (hn : n = L.length) (hk : k ≤ n) (hc : n ≤ cap) :
  SrcIs w 38 (.slice (some (if cap = k then ⟨g,off,none⟩ else ⟨g,off + k * 38,none⟩)) (n - k) (cap - k)) (n - k) (cellsX (L.drop k)) := by
 refine .inr ⟨_,_,rfl,by rw [cellsX_len,List.length_drop,hn],fun j u hu => ?_⟩
 have hj : j < (n - k) * 38 := by have := (List.getElem?_eq_some_iff.1 hu).1; rw [cellsX_len,List.length_drop] at this; rw [hn]; exact this
 rw [if_neg (by omega)]
 have e3 : (⟨g,off + k * 38,none⟩ : Addr).add j = ⟨g,off + (k * 38 + j),none⟩ := by unfold Addr.add; split <;> simp_all [Nat.add_assoc]
 rw [e3]
 exact hr _ _ (cellsX_drop L k (by omega) j u hu)
theorem srcXP {w : World} {g off k cap : Nat} {L : List MX} (hr : ∀ j u,(cellsX L)[j]? = some u → w.cell? ⟨g,off + j,none⟩ = some u) (hk : k ≤ L.length) : SrcIs w 38 (.slice (some ⟨g,off,none⟩) k cap) k (cellsX (L.take k)) := by
 refine .inr ⟨_,_,rfl,by rw [cellsX_len,List.length_take]; congr 1; omega,fun j u hu => ?_⟩
 have e3 : (⟨g,off,none⟩ : Addr).add j = ⟨g,off + j,none⟩ := by unfold Addr.add; split <;> simp_all
 rw [e3]
 exact hr _ _ (cellsX_take L k hk j u hu)
theorem slice_fromN {P : Program} (t e : TypeId) (i : TypeInfo) (ht : P.underlying t = some (.slice e)) (hi : P.info? e = some i) (sz : Nat) (hsz : i.size = sz) (g off len cap k : Nat) (hk : k ≤ len) (j : Int) (hj : j = k) (w : World) :
  (Instr.slice t (.slice (some ⟨g,off,none⟩) len cap) (some (.int .i64 j)) none none).run P w = .ok (.slice (some (if cap = k then ⟨g,off,none⟩ else ⟨g,off + k * sz,none⟩)) (len - k) (cap - k)) w := by
 subst hj
 have he : P.elem t = e := by simp [Program.elem,ht]
 rw [run_slice_l (P := P) w t (some ⟨g,off,none⟩) len cap (by rw [he]; exact ht) .i64 (k : Int) (by omega) (by omega),he]
 simp [sizeOf,typeInfo,hi,sliced,Addr.add,hsz]
 by_cases h : cap = k
 ·simp [h]
 ·by_cases h0 : k = 0
  ·subst h0; simp [h]
  ·simp [h,h0]
end Go.Proofs.YtbljbdjmgogknaaGreatDoor
