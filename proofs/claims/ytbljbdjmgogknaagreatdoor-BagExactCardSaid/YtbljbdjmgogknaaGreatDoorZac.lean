/-
  We / Ws: texts of one proof, one behind the other.
  Conditions: none of its own.
-/
import Derived.Test.YtbljbdjmgogknaaGreatDoorZab
import Derived.Deep.DeepCutAuto
import Derived.Deep.CutBlock
set_option linter.unusedVariables false
set_option linter.unusedSimpArgs false
set_option maxHeartbeats 6400000
set_option maxRecDepth 20000
namespace Go.Proofs.YtbljbdjmgogknaaGreatDoor
open Go.RowKit
def Rw {α : Type} (sz : Nat) (f : α → List Value) (w : World) (v : Value) (l : List α) : Prop :=
 ∃ a cap,v = .slice a l.length cap ∧ ∀ i x,l[i]? = some x → ∃ g off,a = some ⟨g,off,none⟩ ∧ g < w.heap.size ∧ ∀ j u,(f x)[j]? = some u → w.cell? ⟨g,off + i * sz + j,none⟩ = some u
theorem Rw.form {α : Type} {sz : Nat} {f : α → List Value} {w : World} {v : Value} {l : List α} (h : Rw sz f w v l) : ∃ a cap,v = .slice a l.length cap := by
 obtain ⟨a,cap,rfl,_⟩ := h
 exact ⟨a,cap,rfl⟩
theorem Rw.keep {α : Type} {sz : Nat} {f : α → List Value} {S : Nat → Prop} {w w' : World} {v : Value} {l : List α} (h : Rw sz f w v l) (k : Keeps S w w') (hs : ∀ j,v.ownBlock = some j → ¬ S j) : Rw sz f w' v l := by
 obtain ⟨a,cap,rfl,hc⟩ := h
 refine ⟨a,cap,rfl,fun i x hx => ?_⟩
 obtain ⟨g,off,rfl,hg,h0⟩ := hc i x hx
 exact ⟨g,off,rfl,Nat.lt_of_lt_of_le hg k.size,fun j u hu => (k.cell (a := ⟨g,off + i * sz + j,none⟩) hg (hs g rfl)).trans (h0 j u hu)⟩
theorem Rw.kept {α : Type} {sz : Nat} {f : α → List Value} {w w' : World} {v : Value} {l : List α} (h : Rw sz f w v l) (hb : Below w.heap.size w w') : Rw sz f w' v l := h.keep (Keeps.below (fun _ => False) hb) (fun _ _ => id)
theorem Rw.get {α : Type} {sz : Nat} {f : α → List Value} {w w' : World} {v : Value} {l : List α} (h : Rw sz f w v l) (hb : Below w.heap.size w w') {k : Nat} {x : α} (hk : l[k]? = some x) :
  ∃ g off cap,v = .slice (some ⟨g,off,none⟩) l.length cap ∧ g < w.heap.size ∧ ∀ j u,(f x)[j]? = some u → w'.cell? ⟨g,off + k * sz + j,none⟩ = some u := by
 obtain ⟨a,cap,rfl,hc⟩ := h
 obtain ⟨g,off,rfl,hg,h0⟩ := hc k x hk
 exact ⟨g,off,cap,rfl,hg,fun j u hu => (hb.cell (p := ⟨g,off + k * sz + j,none⟩) hg).trans (h0 j u hu)⟩
theorem Rw.nil {α : Type} (sz : Nat) (f : α → List Value) (w : World) : Rw sz f w (.slice none 0 0) [] := ⟨none,0,rfl,fun i x hx => by simp at hx⟩
theorem Ints.form {w : World} {v : Value} {l : List Int} (h : Ints w v l) : ∃ a cap,v = .slice a l.length cap := by
 obtain ⟨a,cap,rfl,_⟩ := h
 exact ⟨a,cap,rfl⟩
theorem Ints.nil (w : World) : Ints w (.slice none 0 0) [] := ⟨none,0,rfl,fun i hi => by simp at hi⟩
theorem Ints.get {w w' : World} {v : Value} {l : List Int} (h : Ints w v l) (hb : Below w.heap.size w w') {k : Nat} {x : Int} (hk : l[k]? = some x) :
  ∃ g off cap,v = .slice (some ⟨g,off,none⟩) l.length cap ∧ g < w.heap.size ∧ w'.cell? ⟨g,off + k,none⟩ = some (.int .i64 x) := by
 obtain ⟨a,cap,rfl,hc⟩ := h
 obtain ⟨hlt,rfl⟩ := List.getElem?_eq_some_iff.1 hk
 obtain ⟨g,off,rfl,hg,h0⟩ := hc k hlt
 exact ⟨g,off,cap,rfl,hg,(hb.cell (p := ⟨g,off + k,none⟩) hg).trans (by rw [h0]; simp [List.getD,hlt])⟩
theorem Ints.keep {S : Nat → Prop} {w w' : World} {v : Value} {l : List Int} (h : Ints w v l) (k : Keeps S w w') (hs : ∀ j,v.ownBlock = some j → ¬ S j) : Ints w' v l := by
 obtain ⟨a,cap,rfl,hc⟩ := h
 refine ⟨a,cap,rfl,fun i hi => ?_⟩
 obtain ⟨g,off,rfl,hg,h0⟩ := hc i hi
 exact ⟨g,off,rfl,Nat.lt_of_lt_of_le hg k.size,(k.cell (a := ⟨g,off + i,none⟩) hg (hs g rfl)).trans h0⟩
def lifeC (x : Int × Int) : List Value := [.int .i64 x.1,.int .i64 x.2]
def slotC (x : Wi.Slot) : List Value := [.int .i64 x.1,.int .i64 x.2.1,.int .i64 x.2.2]
theorem life_neq (x0 x1 y0 y1 : Int) (w : World) :
  (binOp .neq 90 (.agg #[.int .i64 x0,.int .i64 x1]) (.agg #[.int .i64 y0,.int .i64 y1])).run Tryz.prog w = .ok (.bool (!decide ((x0,x1) = (y0,y1)))) w := by
 have hS : Tryz.prog.underlying 90 = some (.struct (Tryz.prog.fieldsOf 90)) := by kernel_rfl
 have hp : Tryz.prog.stoodInHeld 90 = false := by kernel_rfl
 rw [run_neq_struct,show (10000 : Nat) = 9999 + 1 from rfl,run_equalIn_agg w 9999 90 _ _ hS hp]
 simp only [Program.fieldsOf,Tryz.underlying90]
 have u1 := Tryz.underlying3
 have a1 := Tryz.isAgg3
 have z1 := Tryz.sizeOf3
 go_simp
 by_cases h0 : x0 = y0 <;> by_cases h1 : x1 = y1 <;> simp [h0,h1]
theorem slot_neq (x0 x1 x2 y0 y1 y2 : Int) (w : World) :
  (binOp .neq 109 (.agg #[.int .i64 x0,.int .i64 x1,.int .i64 x2]) (.agg #[.int .i64 y0,.int .i64 y1,.int .i64 y2])).run Tryz.prog w = .ok (.bool (!decide ((x0,x1,x2) = (y0,y1,y2)))) w := by
 have hS : Tryz.prog.underlying 109 = some (.struct (Tryz.prog.fieldsOf 109)) := by kernel_rfl
 have hp : Tryz.prog.stoodInHeld 109 = false := by kernel_rfl
 rw [run_neq_struct,show (10000 : Nat) = 9999 + 1 from rfl,run_equalIn_agg w 9999 109 _ _ hS hp]
 simp only [Program.fieldsOf,Tryz.underlying109]
 have u1 := Tryz.underlying3
 have a1 := Tryz.isAgg3
 have z1 := Tryz.sizeOf3
 go_simp
 by_cases h0 : x0 = y0 <;> by_cases h1 : x1 = y1 <;> by_cases h2 : x2 = y2 <;> simp [h0,h1,h2]
theorem eqInts_any (l r : List Int) (hl : l.length ≤ maxLen) (hr : r.length ≤ maxLen) (lv rv : Value) (w : World) (h1 : Ints w lv l) (h2 : Ints w rv r) :
  Calls Tryz.prog 38 #[lv,rv] w fun e w' => e = .returned (.bool (decide (l = r))) ∧ Below w.heap.size w w' := by
 have H1 := hq' h1
 have H2 := hq' h2
 obtain ⟨a1,cap1,rfl⟩ := h1.form
 obtain ⟨a2,cap2,rfl⟩ := h2.form
 unfold maxLen at hl hr
 clear h1 h2
 by_cases hlen : l.length = r.length
 ·go_enter Tryz.func38,Tryz.ntmps38
  go_wp2
  go_loopw [13] (fun i wr => ∃ k : Nat,i = .int .i64 k ∧ k ≤ l.length ∧ decide (l = r) = decide (l.drop k = r.drop k) ∧ Below w.heap.size w wr) (fun i _ => l.length - (intOf i).toNat)
  case atStart => exact ⟨0,rfl,by omega,rfl,Below.refl _ _⟩
  case round =>
   obtain ⟨k,rfl,hk,hq,hb⟩ := hrel
   have HQ := hq' hq
   have HB := hq' hb
   clear hq hb
   by_cases hlt : k < l.length
   ·obtain ⟨x,hx⟩ : ∃ x,l[k]? = some x := ⟨l[k],by simp [hlt]⟩
    obtain ⟨y,hy⟩ : ∃ y,r[k]? = some y := ⟨r[k]'(by omega),by simp [← hlen,hlt]⟩
    have HS := hq' (Wi.eq_step hx hy)
    obtain ⟨g,off,cap',he,hg,p0⟩ := H1.out.get HB.out hx
    injection he with he1 he2 he3
    subst he1 he3
    obtain ⟨g2,off2,cap2',he',hg2,s0⟩ := H2.out.get HB.out hy
    injection he' with he1' he2' he3'
    subst he1' he3'
    skip
    skip
    try dsimp only at *
    clear he2 he2'
    skip
    have hn : (x != y) = !decide (x = y) := by by_cases e : x = y <;> simp [e]
    have hk2 : k < r.length := by omega
    cases hb : decide (x = y) with
    | true =>
     have HX : Hid (decide (l = r) = decide (l.drop (k + 1) = r.drop (k + 1))) := by rw [Hid,HQ.out,HS.out,hb]; rfl
     simp only [hb,Bool.not_true] at hn
     clear HS hb
     go_wp2
     go_quiet (fail)
     have BQ : Hid (Below w.heap.size w (wr.drewN nq)) := below_drewN HB.out nq
     go_wp2
     go_roundw
     case rel => exact ⟨k + 1,by go_num,by omega,HX.out,BQ.out⟩
     case measure => simp [intOf]; omega
    | false =>
     have HX : Hid (decide (l = r) = false) := by rw [Hid,HQ.out,HS.out,hb]; rfl
     simp only [hb,Bool.not_false] at hn
     clear HS hb
     go_wp2
     go_quiet (fail)
     have BQ : Hid (Below w.heap.size w (wr.drewN nq)) := below_drewN HB.out nq
     go_wp2
     go_ret
     exact ⟨by rw [HX.out]; rfl,BQ.out⟩
   ·obtain rfl : k = l.length := by omega
    have HX : Hid (decide (l = r) = true) := by rw [Hid,HQ.out]; exact Wi.eq_end hlen
    go_wp2
    go_ret
    exact ⟨by rw [HX.out]; rfl,HB.out⟩
 ·have HX := hq' (Wi.eq_len hlen)
  go_enter Tryz.func38,Tryz.ntmps38
  go_wp2
  go_ret
  exact ⟨by rw [HX.out]; rfl,Below.refl _ _⟩
theorem eqLifes_any (l r : List (Int × Int)) (hl : l.length ≤ maxLen) (hr : r.length ≤ maxLen) (lv rv : Value) (w : World) (h1 : Rw 2 lifeC w lv l) (h2 : Rw 2 lifeC w rv r) :
  Calls Tryz.prog 39 #[lv,rv] w fun e w' => e = .returned (.bool (decide (l = r))) ∧ Below w.heap.size w w' := by
 have H1 := hq' h1
 have H2 := hq' h2
 obtain ⟨a1,cap1,rfl⟩ := h1.form
 obtain ⟨a2,cap2,rfl⟩ := h2.form
 unfold maxLen at hl hr
 clear h1 h2
 by_cases hlen : l.length = r.length
 ·go_enter Tryz.func39,Tryz.ntmps39
  go_wp2
  go_loopw [13] (fun i wr => ∃ k : Nat,i = .int .i64 k ∧ k ≤ l.length ∧ decide (l = r) = decide (l.drop k = r.drop k) ∧ Below w.heap.size w wr) (fun i _ => l.length - (intOf i).toNat)
  case atStart => exact ⟨0,rfl,by omega,rfl,Below.refl _ _⟩
  case round =>
   obtain ⟨k,rfl,hk,hq,hb⟩ := hrel
   have HQ := hq' hq
   have HB := hq' hb
   clear hq hb
   by_cases hlt : k < l.length
   ·obtain ⟨x,hx⟩ : ∃ x,l[k]? = some x := ⟨l[k],by simp [hlt]⟩
    obtain ⟨y,hy⟩ : ∃ y,r[k]? = some y := ⟨r[k]'(by omega),by simp [← hlen,hlt]⟩
    have HS := hq' (Wi.eq_step (α := (Int × Int)) hx hy)
    obtain ⟨g,off,cap',he,hg,pc⟩ := H1.out.get HB.out hx
    injection he with he1 he2 he3
    subst he1 he3
    obtain ⟨g2,off2,cap2',he',hg2,sc⟩ := H2.out.get HB.out hy
    injection he' with he1' he2' he3'
    subst he1' he3'
    obtain ⟨x0,x1⟩ := x
    obtain ⟨y0,y1⟩ := y
    try dsimp only at *
    clear he2 he2'
    have p0 : wr.cell? ⟨g,off + k * 2,none⟩ = some (.int .i64 x0) := pc 0 _ rfl
    have s0 : wr.cell? ⟨g2,off2 + k * 2,none⟩ = some (.int .i64 y0) := sc 0 _ rfl
    have p1 : wr.cell? ⟨g,off + k * 2 + 1,none⟩ = some (.int .i64 x1) := pc 1 _ rfl
    have s1 : wr.cell? ⟨g2,off2 + k * 2 + 1,none⟩ = some (.int .i64 y1) := sc 1 _ rfl
    clear pc sc
    have hn := fun w => life_neq x0 x1 y0 y1 w
    have hk2 : k < r.length := by omega
    cases hb : decide ((x0,x1) = (y0,y1)) with
    | true =>
     have HX : Hid (decide (l = r) = decide (l.drop (k + 1) = r.drop (k + 1))) := by rw [Hid,HQ.out,HS.out,hb]; rfl
     simp only [hb,Bool.not_true] at hn
     clear HS hb
     go_wp2
     go_quiet (fail)
     have BQ : Hid (Below w.heap.size w (wr.drewN nq)) := below_drewN HB.out nq
     go_wp2
     go_roundw
     case rel => exact ⟨k + 1,by go_num,by omega,HX.out,BQ.out⟩
     case measure => simp [intOf]; omega
    | false =>
     have HX : Hid (decide (l = r) = false) := by rw [Hid,HQ.out,HS.out,hb]; rfl
     simp only [hb,Bool.not_false] at hn
     clear HS hb
     go_wp2
     go_quiet (fail)
     have BQ : Hid (Below w.heap.size w (wr.drewN nq)) := below_drewN HB.out nq
     go_wp2
     go_ret
     exact ⟨by rw [HX.out]; rfl,BQ.out⟩
   ·obtain rfl : k = l.length := by omega
    have HX : Hid (decide (l = r) = true) := by rw [Hid,HQ.out]; exact Wi.eq_end hlen
    go_wp2
    go_ret
    exact ⟨by rw [HX.out]; rfl,HB.out⟩
 ·have HX := hq' (Wi.eq_len hlen)
  go_enter Tryz.func39,Tryz.ntmps39
  go_wp2
  go_ret
  exact ⟨by rw [HX.out]; rfl,Below.refl _ _⟩
theorem eqSlots_any (l r : List Wi.Slot) (hl : l.length ≤ maxLen) (hr : r.length ≤ maxLen) (lv rv : Value) (w : World) (h1 : Rw 3 slotC w lv l) (h2 : Rw 3 slotC w rv r) :
  Calls Tryz.prog 67 #[lv,rv] w fun e w' => e = .returned (.bool (decide (l = r))) ∧ Below w.heap.size w w' := by
 have H1 := hq' h1
 have H2 := hq' h2
 obtain ⟨a1,cap1,rfl⟩ := h1.form
 obtain ⟨a2,cap2,rfl⟩ := h2.form
 unfold maxLen at hl hr
 clear h1 h2
 by_cases hlen : l.length = r.length
 ·go_enter Tryz.func67,Tryz.ntmps67
  go_wp2
  go_loopw [13] (fun i wr => ∃ k : Nat,i = .int .i64 k ∧ k ≤ l.length ∧ decide (l = r) = decide (l.drop k = r.drop k) ∧ Below w.heap.size w wr) (fun i _ => l.length - (intOf i).toNat)
  case atStart => exact ⟨0,rfl,by omega,rfl,Below.refl _ _⟩
  case round =>
   obtain ⟨k,rfl,hk,hq,hb⟩ := hrel
   have HQ := hq' hq
   have HB := hq' hb
   clear hq hb
   by_cases hlt : k < l.length
   ·obtain ⟨x,hx⟩ : ∃ x,l[k]? = some x := ⟨l[k],by simp [hlt]⟩
    obtain ⟨y,hy⟩ : ∃ y,r[k]? = some y := ⟨r[k]'(by omega),by simp [← hlen,hlt]⟩
    have HS := hq' (Wi.eq_step (α := Wi.Slot) hx hy)
    obtain ⟨g,off,cap',he,hg,pc⟩ := H1.out.get HB.out hx
    injection he with he1 he2 he3
    subst he1 he3
    obtain ⟨g2,off2,cap2',he',hg2,sc⟩ := H2.out.get HB.out hy
    injection he' with he1' he2' he3'
    subst he1' he3'
    obtain ⟨x0,x1,x2⟩ := x
    obtain ⟨y0,y1,y2⟩ := y
    try dsimp only at *
    clear he2 he2'
    have p0 : wr.cell? ⟨g,off + k * 3,none⟩ = some (.int .i64 x0) := pc 0 _ rfl
    have s0 : wr.cell? ⟨g2,off2 + k * 3,none⟩ = some (.int .i64 y0) := sc 0 _ rfl
    have p1 : wr.cell? ⟨g,off + k * 3 + 1,none⟩ = some (.int .i64 x1) := pc 1 _ rfl
    have s1 : wr.cell? ⟨g2,off2 + k * 3 + 1,none⟩ = some (.int .i64 y1) := sc 1 _ rfl
    have p2 : wr.cell? ⟨g,off + k * 3 + 2,none⟩ = some (.int .i64 x2) := pc 2 _ rfl
    have s2 : wr.cell? ⟨g2,off2 + k * 3 + 2,none⟩ = some (.int .i64 y2) := sc 2 _ rfl
    clear pc sc
    have hn := fun w => slot_neq x0 x1 x2 y0 y1 y2 w
    have hk2 : k < r.length := by omega
    cases hb : decide ((x0,x1,x2) = (y0,y1,y2)) with
    | true =>
     have HX : Hid (decide (l = r) = decide (l.drop (k + 1) = r.drop (k + 1))) := by rw [Hid,HQ.out,HS.out,hb]; rfl
     simp only [hb,Bool.not_true] at hn
     clear HS hb
     go_wp2
     go_quiet (fail)
     have BQ : Hid (Below w.heap.size w (wr.drewN nq)) := below_drewN HB.out nq
     go_wp2
     go_roundw
     case rel => exact ⟨k + 1,by go_num,by omega,HX.out,BQ.out⟩
     case measure => simp [intOf]; omega
    | false =>
     have HX : Hid (decide (l = r) = false) := by rw [Hid,HQ.out,HS.out,hb]; rfl
     simp only [hb,Bool.not_false] at hn
     clear HS hb
     go_wp2
     go_quiet (fail)
     have BQ : Hid (Below w.heap.size w (wr.drewN nq)) := below_drewN HB.out nq
     go_wp2
     go_ret
     exact ⟨by rw [HX.out]; rfl,BQ.out⟩
   ·obtain rfl : k = l.length := by omega
    have HX : Hid (decide (l = r) = true) := by rw [Hid,HQ.out]; exact Wi.eq_end hlen
    go_wp2
    go_ret
    exact ⟨by rw [HX.out]; rfl,HB.out⟩
 ·have HX := hq' (Wi.eq_len hlen)
  go_enter Tryz.func67,Tryz.ntmps67
  go_wp2
  go_ret
  exact ⟨by rw [HX.out]; rfl,Below.refl _ _⟩
structure MsgV where
 chain : Value
 lives : Value
 brecs : Value
 table : Value
 qrecs : Value
 parts : Value
 arecs : Value
def wreqC (q : Wi.Req) (rv : Value) : List Value := [.int .i64 q.client,.int .i64 q.n,.int .i64 q.kind,.int .i64 q.part,.int .i64 q.seq,.int .i64 q.off,.int .i64 q.max,.int .i64 q.gen,.string ⟨q.group.toArray⟩,.string ⟨q.member.toArray⟩,rv]
def wrespC (q : Wi.Resp) (pv rv : Value) : List Value := [.int .i64 q.client,.int .i64 q.n,.int .i64 q.code,.int .i64 q.off,.int .i64 q.high,.int .i64 q.gen,pv,rv]
def msgC (m : Wi.Msg) (v : MsgV) : List Value := [.int .i64 m.kind,.int .i64 m.frm,.int .i64 m.to,.int .i64 m.part,.int .i64 m.ep,.int .i64 m.off,.int .i64 m.high,.int .i64 m.life,.int .i64 m.pep,v.chain,.int .i64 m.learner,v.lives,
 .int .i64 m.batch.base,.int .i64 m.batch.count,.int .i64 m.batch.prod,.int .i64 m.batch.seq,.int .i64 m.batch.time,v.brecs,v.table,
 .int .i64 m.req.client,.int .i64 m.req.n,.int .i64 m.req.kind,.int .i64 m.req.part,.int .i64 m.req.seq,.int .i64 m.req.off,.int .i64 m.req.max,.int .i64 m.req.gen,.string ⟨m.req.group.toArray⟩,.string ⟨m.req.member.toArray⟩,v.qrecs,
 .int .i64 m.resp.client,.int .i64 m.resp.n,.int .i64 m.resp.code,.int .i64 m.resp.off,.int .i64 m.resp.high,.int .i64 m.resp.gen,v.parts,v.arecs]
def msgV (m : Wi.Msg) (v : MsgV) : Value := .agg (msgC m v).toArray
def Tbl (w : World) (v : Value) (l : List Wi.Seen) : Prop :=
 ∃ a cap,v = .slice a l.length cap ∧ ∀ i x,l[i]? = some x → ∃ g off sv,a = some ⟨g,off,none⟩ ∧ g < w.heap.size ∧ w.cell? ⟨g,off + i * 2,none⟩ = some (.int .i64 x.1) ∧ w.cell? ⟨g,off + i * 2 + 1,none⟩ = some sv ∧ Rw 3 slotC w sv x.2
theorem Tbl.form {w : World} {v : Value} {l : List Wi.Seen} (h : Tbl w v l) : ∃ a cap,v = .slice a l.length cap := by
 obtain ⟨a,cap,rfl,_⟩ := h
 exact ⟨a,cap,rfl⟩
theorem Tbl.kept {w w' : World} {v : Value} {l : List Wi.Seen} (h : Tbl w v l) (hb : Below w.heap.size w w') : Tbl w' v l := by
 obtain ⟨a,cap,rfl,hc⟩ := h
 refine ⟨a,cap,rfl,fun i x hx => ?_⟩
 obtain ⟨g,off,sv,rfl,hg,h0,h1,h2⟩ := hc i x hx
 exact ⟨g,off,sv,rfl,Nat.lt_of_lt_of_le hg hb.size,(hb.cell (p := ⟨g,off + i * 2,none⟩) hg).trans h0,(hb.cell (p := ⟨g,off + i * 2 + 1,none⟩) hg).trans h1,h2.kept hb⟩
theorem Tbl.get {w w' : World} {v : Value} {l : List Wi.Seen} (h : Tbl w v l) (hb : Below w.heap.size w w') {k : Nat} {x : Wi.Seen} (hk : l[k]? = some x) : ∃ g off cap sv,v = .slice (some ⟨g,off,none⟩) l.length cap ∧ g < w.heap.size ∧
  w'.cell? ⟨g,off + k * 2,none⟩ = some (.int .i64 x.1) ∧ w'.cell? ⟨g,off + k * 2 + 1,none⟩ = some sv ∧ Rw 3 slotC w' sv x.2 := by
 obtain ⟨a,cap,rfl,hc⟩ := h
 obtain ⟨g,off,sv,rfl,hg,h0,h1,h2⟩ := hc k x hk
 exact ⟨g,off,cap,sv,rfl,hg,(hb.cell (p := ⟨g,off + k * 2,none⟩) hg).trans h0,(hb.cell (p := ⟨g,off + k * 2 + 1,none⟩) hg).trans h1,h2.kept hb⟩
theorem Tbl.nil (w : World) : Tbl w (.slice none 0 0) [] := ⟨none,0,rfl,fun i x hx => by simp at hx⟩
structure MsgAt (w : World) (m : Wi.Msg) (v : MsgV) : Prop where
 chain : Ints w v.chain m.chain
 lives : Rw 2 lifeC w v.lives m.lives
 brecs : Recs w v.brecs m.batch.recs
 table : Tbl w v.table m.table
 qrecs : Recs w v.qrecs m.req.recs
 parts : Ints w v.parts m.resp.parts
 arecs : Recs w v.arecs m.resp.recs
theorem MsgAt.kept {w w' : World} {m : Wi.Msg} {v : MsgV} (h : MsgAt w m v) (hb : Below w.heap.size w w') : MsgAt w' m v := ⟨h.chain.kept hb,h.lives.kept hb,h.brecs.kept hb,h.table.kept hb,h.qrecs.kept hb,h.parts.kept hb,h.arecs.kept hb⟩
structure MsgOk (m : Wi.Msg) : Prop where
 n : ∀ x ∈ [m.kind,m.frm,m.to,m.part,m.ep,m.off,m.high,m.life,m.pep,m.learner,m.req.client,m.req.n,m.req.kind,m.req.part,m.req.seq,m.req.off,m.req.max,m.req.gen,m.resp.client,m.resp.n,m.resp.code,m.resp.off,m.resp.high,m.resp.gen],Bd.inR x
 c : m.chain.length ≤ maxLen ∧ ∀ x ∈ m.chain,Bd.inR x
 l : m.lives.length ≤ maxLen ∧ ∀ x ∈ m.lives,Bd.inR x.1 ∧ Bd.inR x.2
 b : BatOk m.batch
 t : m.table.length ≤ maxLen ∧ ∀ x ∈ m.table,Bd.inR x.1 ∧ x.2.length ≤ maxLen ∧ ∀ y ∈ x.2,Bd.inR y.1 ∧ Bd.inR y.2.1 ∧ Bd.inR y.2.2
 q : m.req.group.length ≤ maxLen ∧ m.req.member.length ≤ maxLen ∧ m.req.recs.length ≤ maxLen ∧ ∀ x ∈ m.req.recs,RecOk x
 p : m.resp.parts.length ≤ maxLen ∧ ∀ x ∈ m.resp.parts,Bd.inR x
 a : m.resp.recs.length ≤ maxLen ∧ ∀ x ∈ m.resp.recs,RecOk x
theorem twoBox {w : World} (a b : List Value) (t : TypeId) : ∃ w1,(w.alloc (.cells a.toArray t)).alloc (.cells b.toArray t) = w1 ∧ Hid (Cl w1 w.heap.size a t) ∧ Hid (Cl w1 (w.heap.size + 1) b t) ∧ Hid (Below w.heap.size w w1) := by
 have hb : Below w.heap.size w ((w.alloc (.cells a.toArray t)).alloc (.cells b.toArray t)) := ((Below.refl _ _).alloc (Nat.le_refl _) _).alloc (by simp) _
 refine ⟨_,rfl,(Cl.new w _ _).alloc _,?_,hb⟩
 have h1 := Cl.new (w.alloc (.cells a.toArray t)) b t
 rw [World.size_alloc] at h1
 exact h1
theorem oneBox {w : World} (a : List Value) (t : TypeId) : ∃ w1,w.alloc (.cells a.toArray t) = w1 ∧ Hid (Cl w1 w.heap.size a t) ∧ Hid (Below w.heap.size w w1) :=
 ⟨_,rfl,Cl.new w _ _,(Below.refl _ _).alloc (Nat.le_refl _) _⟩
theorem sameReqs_any (a b : Wi.Req) (av bv : Value) (w : World) (ha : Recs w av a.recs) (hb : Recs w bv b.recs) (la : a.recs.length ≤ maxLen) (lb : b.recs.length ≤ maxLen) :
  Calls Tryz.prog 42 #[.agg (wreqC a av).toArray,.agg (wreqC b bv).toArray] w fun e w' => e = .returned (.bool (Wi.reqEq a b)) ∧ Below w.heap.size w w' := by
 have HA := hq' ha
 have HB := hq' hb
 obtain ⟨sa,ca,rfl⟩ := ha.form
 obtain ⟨sb,cb,rfl⟩ := hb.form
 have LA := hq' la
 have LB := hq' lb
 unfold maxLen at la lb
 obtain ⟨x_client,x_n,x_kind,x_part,x_seq,x_off,x_max,x_gen,x_group,x_member,x_recs⟩ := a
 obtain ⟨y_client,y_n,y_kind,y_part,y_seq,y_off,y_max,y_gen,y_group,y_member,y_recs⟩ := b
 dsimp only at *
 have HE : Hid (Wi.reqEq ⟨x_client,x_n,x_kind,x_part,x_seq,x_off,x_max,x_gen,x_group,x_member,x_recs⟩ ⟨y_client,y_n,y_kind,y_part,y_seq,y_off,y_max,y_gen,y_group,y_member,y_recs⟩ = (Wi.reqNums ⟨x_client,x_n,x_kind,x_part,x_seq,x_off,x_max,x_gen,x_group,x_member,x_recs⟩ ⟨y_client,y_n,y_kind,y_part,y_seq,y_off,y_max,y_gen,y_group,y_member,y_recs⟩ && (decide (x_group = y_group) && (decide (x_member = y_member) && Cr.recsEq x_recs y_recs)))) := rfl
 generalize hr : Wi.reqEq ⟨x_client,x_n,x_kind,x_part,x_seq,x_off,x_max,x_gen,x_group,x_member,x_recs⟩ ⟨y_client,y_n,y_kind,y_part,y_seq,y_off,y_max,y_gen,y_group,y_member,y_recs⟩ = res at *
 clear hr ha hb
 unfold wreqC
 dsimp only
 go_enter Tryz.func42,Tryz.ntmps42
 obtain ⟨w1,hw1,CA,CB,B1⟩ := twoBox (w := w) [.int .i64 x_client,.int .i64 x_n,.int .i64 x_kind,.int .i64 x_part,.int .i64 x_seq,.int .i64 x_off,.int .i64 x_max,.int .i64 x_gen,.string ⟨x_group.toArray⟩,.string ⟨x_member.toArray⟩,.slice sa x_recs.length ca] [.int .i64 y_client,.int .i64 y_n,.int .i64 y_kind,.int .i64 y_part,.int .i64 y_seq,.int .i64 y_off,.int .i64 y_max,.int .i64 y_gen,.string ⟨y_group.toArray⟩,.string ⟨y_member.toArray⟩,.slice sb y_recs.length cb] 39
 go_upto_region 1 with (fail)
 first | rw [hw1] | skip
 clear hw1
 generalize w.heap.size + 1 = pb at *
 have RA := hq' (HA.out.kept B1.out)
 have RB := hq' (HB.out.kept B1.out)
 have BW : Hid (∀ W,Below w1.heap.size w1 W → Below w.heap.size w W) := fun W h => bt B1.out h
 generalize w.heap.size = pa at CA ⊢
 go_cut [5] (fun t5 wz => t5 = .bool (Wi.reqNums ⟨x_client,x_n,x_kind,x_part,x_seq,x_off,x_max,x_gen,x_group,x_member,x_recs⟩ ⟨y_client,y_n,y_kind,y_part,y_seq,y_off,y_max,y_gen,y_group,y_member,y_recs⟩) ∧ wz = w1)
 case first =>
  have a0 := CA.out.cell 0
  have b0 := CB.out.cell 0
  have a1 := CA.out.cell 1
  have b1 := CB.out.cell 1
  have a2 := CA.out.cell 2
  have b2 := CB.out.cell 2
  have a3 := CA.out.cell 3
  have b3 := CB.out.cell 3
  have a4 := CA.out.cell 4
  have b4 := CB.out.cell 4
  have a5 := CA.out.cell 5
  have b5 := CB.out.cell 5
  have a6 := CA.out.cell 6
  have b6 := CB.out.cell 6
  have a7 := CA.out.cell 7
  have b7 := CB.out.cell 7
  simp only [g0',gs'] at a0 b0 a1 b1 a2 b2 a3 b3 a4 b4 a5 b5 a6 b6 a7 b7
  clear CA CB RA RB BW B1 HE
  by_cases e0 : x_client = y_client
  rotate_left
  ·have HX : Hid (Wi.reqNums ⟨x_client,x_n,x_kind,x_part,x_seq,x_off,x_max,x_gen,x_group,x_member,x_recs⟩ ⟨y_client,y_n,y_kind,y_part,y_seq,y_off,y_max,y_gen,y_group,y_member,y_recs⟩ = false) := by
    unfold Hid Wi.reqNums
    simp [e0]
   go_wp2
   go_meet
   case rel => exact ⟨by rw [HX.out] <;> simp [e0],rfl⟩
  subst e0
  by_cases e1 : x_n = y_n
  rotate_left
  ·have HX : Hid (Wi.reqNums ⟨x_client,x_n,x_kind,x_part,x_seq,x_off,x_max,x_gen,x_group,x_member,x_recs⟩ ⟨x_client,y_n,y_kind,y_part,y_seq,y_off,y_max,y_gen,y_group,y_member,y_recs⟩ = false) := by
    unfold Hid Wi.reqNums
    simp [e1]
   go_wp2
   go_meet
   case rel => exact ⟨by rw [HX.out] <;> simp [e1],rfl⟩
  subst e1
  by_cases e2 : x_kind = y_kind
  rotate_left
  ·have HX : Hid (Wi.reqNums ⟨x_client,x_n,x_kind,x_part,x_seq,x_off,x_max,x_gen,x_group,x_member,x_recs⟩ ⟨x_client,x_n,y_kind,y_part,y_seq,y_off,y_max,y_gen,y_group,y_member,y_recs⟩ = false) := by
    unfold Hid Wi.reqNums
    simp [e2]
   go_wp2
   go_meet
   case rel => exact ⟨by rw [HX.out] <;> simp [e2],rfl⟩
  subst e2
  by_cases e3 : x_part = y_part
  rotate_left
  ·have HX : Hid (Wi.reqNums ⟨x_client,x_n,x_kind,x_part,x_seq,x_off,x_max,x_gen,x_group,x_member,x_recs⟩ ⟨x_client,x_n,x_kind,y_part,y_seq,y_off,y_max,y_gen,y_group,y_member,y_recs⟩ = false) := by
    unfold Hid Wi.reqNums
    simp [e3]
   go_wp2
   go_meet
   case rel => exact ⟨by rw [HX.out] <;> simp [e3],rfl⟩
  subst e3
  by_cases e4 : x_seq = y_seq
  rotate_left
  ·have HX : Hid (Wi.reqNums ⟨x_client,x_n,x_kind,x_part,x_seq,x_off,x_max,x_gen,x_group,x_member,x_recs⟩ ⟨x_client,x_n,x_kind,x_part,y_seq,y_off,y_max,y_gen,y_group,y_member,y_recs⟩ = false) := by
    unfold Hid Wi.reqNums
    simp [e4]
   go_wp2
   go_meet
   case rel => exact ⟨by rw [HX.out] <;> simp [e4],rfl⟩
  subst e4
  by_cases e5 : x_off = y_off
  rotate_left
  ·have HX : Hid (Wi.reqNums ⟨x_client,x_n,x_kind,x_part,x_seq,x_off,x_max,x_gen,x_group,x_member,x_recs⟩ ⟨x_client,x_n,x_kind,x_part,x_seq,y_off,y_max,y_gen,y_group,y_member,y_recs⟩ = false) := by
    unfold Hid Wi.reqNums
    simp [e5]
   go_wp2
   go_meet
   case rel => exact ⟨by rw [HX.out] <;> simp [e5],rfl⟩
  subst e5
  by_cases e6 : x_max = y_max
  rotate_left
  ·have HX : Hid (Wi.reqNums ⟨x_client,x_n,x_kind,x_part,x_seq,x_off,x_max,x_gen,x_group,x_member,x_recs⟩ ⟨x_client,x_n,x_kind,x_part,x_seq,x_off,y_max,y_gen,y_group,y_member,y_recs⟩ = false) := by
    unfold Hid Wi.reqNums
    simp [e6]
   go_wp2
   go_meet
   case rel => exact ⟨by rw [HX.out] <;> simp [e6],rfl⟩
  subst e6
  by_cases e7 : x_gen = y_gen
  rotate_left
  ·have HX : Hid (Wi.reqNums ⟨x_client,x_n,x_kind,x_part,x_seq,x_off,x_max,x_gen,x_group,x_member,x_recs⟩ ⟨x_client,x_n,x_kind,x_part,x_seq,x_off,x_max,y_gen,y_group,y_member,y_recs⟩ = false) := by
    unfold Hid Wi.reqNums
    simp [e7]
   go_wp2
   go_meet
   case rel => exact ⟨by rw [HX.out] <;> simp [e7],rfl⟩
  subst e7
  have HX : Hid (Wi.reqNums ⟨x_client,x_n,x_kind,x_part,x_seq,x_off,x_max,x_gen,x_group,x_member,x_recs⟩ ⟨x_client,x_n,x_kind,x_part,x_seq,x_off,x_max,x_gen,y_group,y_member,y_recs⟩ = true) := by
   unfold Hid Wi.reqNums
   simp
  go_wp2
  go_meet
  case rel => exact ⟨by rw [HX.out],rfl⟩
 case rest =>
  obtain ⟨rfl,hwc⟩ := hcut
  subst hwc
  generalize Wi.reqNums ⟨x_client,x_n,x_kind,x_part,x_seq,x_off,x_max,x_gen,x_group,x_member,x_recs⟩ ⟨y_client,y_n,y_kind,y_part,y_seq,y_off,y_max,y_gen,y_group,y_member,y_recs⟩ = nq at *
  have a8 := CA.out.cell 8
  have b8 := CB.out.cell 8
  have a9 := CA.out.cell 9
  have b9 := CB.out.cell 9
  have a10 := CA.out.cell 10
  have b10 := CB.out.cell 10
  simp only [g0',gs'] at a8 b8 a9 b9 a10 b10
  cases nq with
  | false =>
   have HX : Hid (res = false) := by rw [Hid,HE.out]; rfl
   go_wp2
   go_ret
   exact ⟨by rw [HX.out]; rfl,BW.out _ (Below.refl _ _)⟩
  | true =>
   by_cases hg : x_group = y_group
   rotate_left
   ·have HX : Hid (res = false) := by rw [Hid,HE.out,decide_eq_false hg]; rfl
    clear HE
    go_wp2
    go_ret
    exact ⟨by rw [HX.out]; rfl,BW.out _ (Below.refl _ _)⟩
   subst hg
   by_cases hm : x_member = y_member
   rotate_left
   ·have HX : Hid (res = false) := by rw [Hid,HE.out,decide_eq_false hm]; simp
    clear HE
    go_wp2
    go_ret
    exact ⟨by rw [HX.out]; rfl,BW.out _ (Below.refl _ _)⟩
   subst hm
   have HX : Hid (res = Cr.recsEq x_recs y_recs) := by rw [Hid,HE.out]; simp
   have HQ := hq' (equal_any x_recs y_recs LA.out LB.out _ _ _ RA.out RB.out)
   clear HE
   go_wp2_with fail
   refine HQ.out.mono ?_
   rintro e w5 ⟨rfl,hb5⟩
   have B5 := hq' (BW.out _ hb5)
   clear hb5
   go_wp2
   go_ret
   exact ⟨by rw [HX.out]; rfl,B5.out⟩
theorem sameResps_any (a b : Wi.Resp) (pv av qv bv : Value) (w : World) (hp : Ints w pv a.parts) (hq : Ints w qv b.parts) (ha : Recs w av a.recs) (hb : Recs w bv b.recs) (la : a.recs.length ≤ maxLen ∧ a.parts.length ≤ maxLen) (lb : b.recs.length ≤ maxLen ∧ b.parts.length ≤ maxLen) :
  Calls Tryz.prog 43 #[.agg (wrespC a pv av).toArray,.agg (wrespC b qv bv).toArray] w fun e w' => e = .returned (.bool (Wi.respEq a b)) ∧ Below w.heap.size w w' := by
 have HA := hq' ha
 have HB := hq' hb
 have HP := hq' hp
 have HQ := hq' hq
 obtain ⟨sa,ca,rfl⟩ := ha.form
 obtain ⟨sb,cb,rfl⟩ := hb.form
 obtain ⟨sp,cp,rfl⟩ := hp.form
 obtain ⟨sq,cq,rfl⟩ := hq.form
 have LA := hq' la
 have LB := hq' lb
 obtain ⟨la,la2⟩ := la
 obtain ⟨lb,lb2⟩ := lb
 unfold maxLen at la lb la2 lb2
 obtain ⟨x_client,x_n,x_code,x_off,x_high,x_gen,x_parts,x_recs⟩ := a
 obtain ⟨y_client,y_n,y_code,y_off,y_high,y_gen,y_parts,y_recs⟩ := b
 dsimp only at *
 have HE : Hid (Wi.respEq ⟨x_client,x_n,x_code,x_off,x_high,x_gen,x_parts,x_recs⟩ ⟨y_client,y_n,y_code,y_off,y_high,y_gen,y_parts,y_recs⟩ = (Wi.respNums ⟨x_client,x_n,x_code,x_off,x_high,x_gen,x_parts,x_recs⟩ ⟨y_client,y_n,y_code,y_off,y_high,y_gen,y_parts,y_recs⟩ && (decide (x_parts = y_parts) && Cr.recsEq x_recs y_recs))) := rfl
 generalize hr : Wi.respEq ⟨x_client,x_n,x_code,x_off,x_high,x_gen,x_parts,x_recs⟩ ⟨y_client,y_n,y_code,y_off,y_high,y_gen,y_parts,y_recs⟩ = res at *
 clear hr ha hb hp hq
 unfold wrespC
 dsimp only
 go_enter Tryz.func43,Tryz.ntmps43
 obtain ⟨w1,hw1,CA,CB,B1⟩ := twoBox (w := w) [.int .i64 x_client,.int .i64 x_n,.int .i64 x_code,.int .i64 x_off,.int .i64 x_high,.int .i64 x_gen,.slice sp x_parts.length cp,.slice sa x_recs.length ca] [.int .i64 y_client,.int .i64 y_n,.int .i64 y_code,.int .i64 y_off,.int .i64 y_high,.int .i64 y_gen,.slice sq y_parts.length cq,.slice sb y_recs.length cb] 42
 go_upto_region 1 with (fail)
 first | rw [hw1] | skip
 clear hw1
 generalize w.heap.size + 1 = pb at *
 have RA := hq' (HA.out.kept B1.out)
 have RB := hq' (HB.out.kept B1.out)
 have RP := hq' (HP.out.kept B1.out)
 have RQ := hq' (HQ.out.kept B1.out)
 have BW : Hid (∀ W,Below w1.heap.size w1 W → Below w.heap.size w W) := fun W h => bt B1.out h
 generalize w.heap.size = pa at CA ⊢
 go_cut [5] (fun t5 wz => t5 = .bool (Wi.respNums ⟨x_client,x_n,x_code,x_off,x_high,x_gen,x_parts,x_recs⟩ ⟨y_client,y_n,y_code,y_off,y_high,y_gen,y_parts,y_recs⟩) ∧ wz = w1)
 case first =>
  have a0 := CA.out.cell 0
  have b0 := CB.out.cell 0
  have a1 := CA.out.cell 1
  have b1 := CB.out.cell 1
  have a2 := CA.out.cell 2
  have b2 := CB.out.cell 2
  have a3 := CA.out.cell 3
  have b3 := CB.out.cell 3
  have a4 := CA.out.cell 4
  have b4 := CB.out.cell 4
  have a5 := CA.out.cell 5
  have b5 := CB.out.cell 5
  simp only [g0',gs'] at a0 b0 a1 b1 a2 b2 a3 b3 a4 b4 a5 b5
  clear CA CB RA RB BW B1 HE
  by_cases e0 : x_client = y_client
  rotate_left
  ·have HX : Hid (Wi.respNums ⟨x_client,x_n,x_code,x_off,x_high,x_gen,x_parts,x_recs⟩ ⟨y_client,y_n,y_code,y_off,y_high,y_gen,y_parts,y_recs⟩ = false) := by
    unfold Hid Wi.respNums
    simp [e0]
   go_wp2
   go_meet
   case rel => exact ⟨by rw [HX.out] <;> simp [e0],rfl⟩
  subst e0
  by_cases e1 : x_n = y_n
  rotate_left
  ·have HX : Hid (Wi.respNums ⟨x_client,x_n,x_code,x_off,x_high,x_gen,x_parts,x_recs⟩ ⟨x_client,y_n,y_code,y_off,y_high,y_gen,y_parts,y_recs⟩ = false) := by
    unfold Hid Wi.respNums
    simp [e1]
   go_wp2
   go_meet
   case rel => exact ⟨by rw [HX.out] <;> simp [e1],rfl⟩
  subst e1
  by_cases e2 : x_code = y_code
  rotate_left
  ·have HX : Hid (Wi.respNums ⟨x_client,x_n,x_code,x_off,x_high,x_gen,x_parts,x_recs⟩ ⟨x_client,x_n,y_code,y_off,y_high,y_gen,y_parts,y_recs⟩ = false) := by
    unfold Hid Wi.respNums
    simp [e2]
   go_wp2
   go_meet
   case rel => exact ⟨by rw [HX.out] <;> simp [e2],rfl⟩
  subst e2
  by_cases e3 : x_off = y_off
  rotate_left
  ·have HX : Hid (Wi.respNums ⟨x_client,x_n,x_code,x_off,x_high,x_gen,x_parts,x_recs⟩ ⟨x_client,x_n,x_code,y_off,y_high,y_gen,y_parts,y_recs⟩ = false) := by
    unfold Hid Wi.respNums
    simp [e3]
   go_wp2
   go_meet
   case rel => exact ⟨by rw [HX.out] <;> simp [e3],rfl⟩
  subst e3
  by_cases e4 : x_high = y_high
  rotate_left
  ·have HX : Hid (Wi.respNums ⟨x_client,x_n,x_code,x_off,x_high,x_gen,x_parts,x_recs⟩ ⟨x_client,x_n,x_code,x_off,y_high,y_gen,y_parts,y_recs⟩ = false) := by
    unfold Hid Wi.respNums
    simp [e4]
   go_wp2
   go_meet
   case rel => exact ⟨by rw [HX.out] <;> simp [e4],rfl⟩
  subst e4
  by_cases e5 : x_gen = y_gen
  rotate_left
  ·have HX : Hid (Wi.respNums ⟨x_client,x_n,x_code,x_off,x_high,x_gen,x_parts,x_recs⟩ ⟨x_client,x_n,x_code,x_off,x_high,y_gen,y_parts,y_recs⟩ = false) := by
    unfold Hid Wi.respNums
    simp [e5]
   go_wp2
   go_meet
   case rel => exact ⟨by rw [HX.out] <;> simp [e5],rfl⟩
  subst e5
  have HX : Hid (Wi.respNums ⟨x_client,x_n,x_code,x_off,x_high,x_gen,x_parts,x_recs⟩ ⟨x_client,x_n,x_code,x_off,x_high,x_gen,y_parts,y_recs⟩ = true) := by
   unfold Hid Wi.respNums
   simp
  go_wp2
  go_meet
  case rel => exact ⟨by rw [HX.out],rfl⟩
 case rest =>
  obtain ⟨rfl,hwc⟩ := hcut
  subst hwc
  generalize Wi.respNums ⟨x_client,x_n,x_code,x_off,x_high,x_gen,x_parts,x_recs⟩ ⟨y_client,y_n,y_code,y_off,y_high,y_gen,y_parts,y_recs⟩ = nq at *
  have a6 := CA.out.cell 6
  have b6 := CB.out.cell 6
  have a7 := CA.out.cell 7
  have b7 := CB.out.cell 7
  simp only [g0',gs'] at a6 b6 a7 b7
  cases nq with
  | false =>
   have HX : Hid (res = false) := by rw [Hid,HE.out]; rfl
   go_wp2
   go_ret
   exact ⟨by rw [HX.out]; rfl,BW.out _ (Below.refl _ _)⟩
  | true =>
   have HI := hq' (eqInts_any x_parts y_parts LA.out.2 LB.out.2 _ _ _ RP.out RQ.out)
   go_wp2_with fail
   refine HI.out.mono ?_
   rintro e w4 ⟨rfl,hb4⟩
   have CA4 := hq' (CA.out.below hb4)
   have CB4 := hq' (CB.out.below hb4)
   have RA4 := hq' (RA.out.kept hb4)
   have RB4 := hq' (RB.out.kept hb4)
   have B4 := hq' (BW.out _ hb4)
   clear hb4 a6 a7 b6 b7 HI CA CB RA RB
   have a7 := CA4.out.cell 7
   have b7 := CB4.out.cell 7
   simp only [g0',gs'] at a7 b7
   cases hg : decide (x_parts = y_parts) with
   | false =>
    have HX : Hid (res = false) := by rw [Hid,HE.out,hg]; rfl
    clear hg HE
    go_wp2
    go_ret
    exact ⟨by rw [HX.out]; rfl,B4.out⟩
   | true =>
    have HX : Hid (res = Cr.recsEq x_recs y_recs) := by rw [Hid,HE.out,hg]; rfl
    have HQ := hq' (equal_any x_recs y_recs LA.out.1 LB.out.1 _ _ _ RA4.out RB4.out)
    clear hg HE
    go_wp2_with fail
    refine HQ.out.mono ?_
    rintro e w5 ⟨rfl,hb5⟩
    have B5 := hq' (bt B4.out hb5)
    clear hb5
    go_wp2
    go_ret
    exact ⟨by rw [HX.out]; rfl,B5.out⟩
abbrev xt (x_part x_ep x_off x_high x_life x_pep : Int) (x_chain : List Int) (x_learner : Int) (x_lives : List (Int × Int)) (x_batch : Cr.Batch) (x_table : List Wi.Seen) (x_req : Wi.Req) (x_resp : Wi.Resp) (s0 : Option Addr) (c0 : Nat) (s1 : Option Addr) (c1 : Nat) (s2 : Option Addr) (c2 : Nat) (s3 : Option Addr) (c3 : Nat) (s4 : Option Addr) (c4 : Nat) (s5 : Option Addr) (c5 : Nat) (s6 : Option Addr) (c6 : Nat) : List Value := .int .i64 x_part::.int .i64 x_ep::.int .i64 x_off::.int .i64 x_high::.int .i64 x_life::.int .i64 x_pep::.slice s0 x_chain.length c0::.int .i64 x_learner::.slice s1 x_lives.length c1::.int .i64 x_batch.base::.int .i64 x_batch.count::.int .i64 x_batch.prod::.int .i64 x_batch.seq::.int .i64 x_batch.time::.slice s2 x_batch.recs.length c2::.slice s3 x_table.length c3::.int .i64 x_req.client::.int .i64 x_req.n::.int .i64 x_req.kind::.int .i64 x_req.part::.int .i64 x_req.seq::.int .i64 x_req.off::.int .i64 x_req.max::.int .i64 x_req.gen::.string ⟨x_req.group.toArray⟩::.string ⟨x_req.member.toArray⟩::.slice s4 x_req.recs.length c4::.int .i64 x_resp.client::.int .i64 x_resp.n::.int .i64 x_resp.code::.int .i64 x_resp.off::.int .i64 x_resp.high::.int .i64 x_resp.gen::.slice s5 x_resp.parts.length c5::.slice s6 x_resp.recs.length c6::[]
theorem MsgAt.slices {w : World} {m : Wi.Msg} {v : MsgV} (h : MsgAt w m v) : ∃ s0 c0 s1 c1 s2 c2 s3 c3 s4 c4 s5 c5 s6 c6,v = ⟨.slice s0 m.chain.length c0,.slice s1 m.lives.length c1,.slice s2 m.batch.recs.length c2,.slice s3 m.table.length c3,.slice s4 m.req.recs.length c4,.slice s5 m.resp.parts.length c5,.slice s6 m.resp.recs.length c6⟩ := by
 obtain ⟨s0,c0,e0⟩ := h.chain.form
 obtain ⟨s1,c1,e1⟩ := h.lives.form
 obtain ⟨s2,c2,e2⟩ := h.brecs.form
 obtain ⟨s3,c3,e3⟩ := h.table.form
 obtain ⟨s4,c4,e4⟩ := h.qrecs.form
 obtain ⟨s5,c5,e5⟩ := h.parts.form
 obtain ⟨s6,c6,e6⟩ := h.arecs.form
 obtain ⟨v0,v1,v2,v3,v4,v5,v6⟩ := v
 dsimp only at e0 e1 e2 e3 e4 e5 e6
 subst e0 e1 e2 e3 e4 e5 e6
 exact ⟨_,_,_,_,_,_,_,_,_,_,_,_,_,_,rfl⟩
theorem msg38 {m : Wi.Msg} {v : MsgV} {L : List Value} (hL : L = msgC m v) : Hid ((Tryz.prog.info? 44).map (·.size) = some L.length) := by rw [Hid,hL,show ∀ a b,(msgC a b).length = 38 from fun _ _ => rfl]; kernel_rfl
theorem msg39 {m : Wi.Msg} {v : MsgV} {L : List Value} (hL : L = msgC m v) : Hid ((Tryz.prog.info? 44).map (·.size) = some (L.toArray : Array Value).size) := by rw [Hid,List.size_toArray,hL,show ∀ a b,(msgC a b).length = 38 from fun _ _ => rfl]; kernel_rfl
theorem msgSz {m : Wi.Msg} {v : MsgV} {L : List Value} (hL : L = msgC m v) : Hid (((zt0).toArray : Array Value).size = (L.toArray : Array Value).size) := by rw [Hid,hL]; rfl
end Go.Proofs.YtbljbdjmgogknaaGreatDoor
