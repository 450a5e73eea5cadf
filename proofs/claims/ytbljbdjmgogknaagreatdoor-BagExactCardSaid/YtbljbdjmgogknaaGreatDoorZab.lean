/-
  Opn / Oi / Cwa / Cwb / Cwc / Cwd / Cl: texts of one proof, one behind the other.
  Conditions: none of its own.
-/
import Derived.Test.YtbljbdjmgogknaaGreatDoorZaa
import Derived.ProofKit
import Derived.OpenShut
import Derived.Deep.Slices
import Derived.Test.YtbljbdjmgogknaaGreatDoorRows
import Derived.Deep.Strs
import Derived.Lib.SmallJoins
import Derived.Laws.StructEq
import Derived.BigQuiet
import Derived.Laws.ResultCell
import Derived.Laws.Rows
set_option linter.unusedVariables false
set_option linter.unusedSimpArgs false
set_option maxHeartbeats 6400000
set_option maxRecDepth 20000
namespace Go.Proofs.YtbljbdjmgogknaaGreatDoor
open Go.ChangeShapes Go.WideShapes Go.ChangeAt Go.RowKit
theorem slice_wide {P : Program} {W : World} {r : Reach} {base : Nat} {t e : TypeId} {v : Value} (hs : P.underlying t = some (.slice e)) (h : Value.okWide P W r base t v) :
  v = .slice none 0 0 ∨ ∃ b off len cap,v = .slice (some ⟨b,off,none⟩) len cap ∧ len ≤ cap ∧ cap ≤ maxLen ∧ b < W.heap.size := by
 simp only [Value.okWide,hs] at h
 cases v <;> simp [Cell.okWide,Cell.ok,hs] at h
 case slice a len cap =>
  cases a with
  | none =>
   left
   revert h
   cases len <;> cases cap <;> simp
  | some a =>
   right
   obtain ⟨h1,h2,h3⟩ := h
   obtain ⟨_,hsp,row,cells,hsh,_⟩ := h3
   obtain ⟨b,off,spot⟩ := a
   simp only at hsp
   subst hsp
   refine ⟨b,off,len,cap,rfl,h1,?_,?_⟩
   ·unfold maxLen
    omega
   ·rcases Nat.lt_or_ge b W.heap.size with hlt | hge
    ·exact hlt
    ·simp [World.shape?,Array.getElem?_eq_none hge] at hsh
theorem slice_open {P : Program} {W : World} {r : Reach} {base b0 : Nat} {t e : TypeId} {v : Value} {H : Type} {enc : TypeId × Value → H} {spare : Nat → Bool} {held : Bool} {d : DataW H} {p : List MemPlace}
  (hs : P.underlying t = some (.slice e)) (hv : Value.okWide P W r base t v) (h : DataW.Trod enc P W b0 spare held t v d p) :
  ∃ a len cap,v = .slice a len cap ∧ len ≤ cap ∧ cap ≤ maxLen ∧ (a = none → len = 0 ∧ cap = 0) ∧ (∀ x,a = some x → ∃ b off,x = ⟨b,off,none⟩ ∧ b < W.heap.size) ∧
   ∀ i,i < len → ∃ b off cs n y,a = some ⟨b,off,none⟩ ∧ b < W.heap.size ∧ cs.length = P.cellsOf e ∧ (∀ j,j < P.cellsOf e → W.cell? ⟨b,off + i * P.cellsOf e + j,none⟩ = cs[j]?) ∧
    DataW.trod enc P W b0 spare held n e cs = some y := by
 obtain ⟨fuel,hf⟩ := h
 rcases slice_wide hs hv with rfl | ⟨b,off,len,cap,rfl,hl,hm,hlt⟩
 ·exact ⟨none,0,0,rfl,Nat.le_refl _,Nat.zero_le _,fun _ => ⟨rfl,rfl⟩,fun x hx => (by cases hx),fun i hi => by omega⟩
 ·have hf' : DataW.trod enc P W b0 spare held fuel t [.slice (some ⟨b,off,none⟩) len cap] = some (d,p) := by simpa [Value.cells] using hf
  rcases Go.Deep.open_slice hs hf' with ⟨hcs,_⟩ | ⟨a,l,c,m,n,D,Pl,hcs,hb,hl',hm',hmm,hx,hel⟩
  ·simp at hcs
  ·simp at hcs
   obtain ⟨rfl,rfl,rfl⟩ := hcs
   refine ⟨_,len,cap,rfl,hl,hm,fun h0 => (by cases h0),fun x hx' => ⟨b,off,(Option.some.inj hx').symm,hlt⟩,fun i hi => ?_⟩
   obtain ⟨cs,h1,h2⟩ := hel i (by rw [hmm]; split <;> omega)
   obtain ⟨_,hlen,hcell⟩ := World.cells?_some h1
   refine ⟨b,off,cs,n,_,rfl,hlt,hlen,fun j hj => ?_,h2⟩
   have := hcell j hj
   rw [Go.Deep.add_add] at this
   rw [← this]
   unfold Addr.add
   split
   ·simp_all
   ·simp [Nat.add_assoc]
theorem list_of {α : Type} {n : Nat} (dflt : α) (p : Nat → α → Prop) (h : ∀ i,i < n → ∃ x,p i x) : ∃ l : List α,l.length = n ∧ ∀ i,i < n → p i (l.getD i dflt) := by
 induction n with
 | zero => exact ⟨[],rfl,fun i hi => by omega⟩
 | succ n ih =>
  obtain ⟨l,hl,hp⟩ := ih fun i hi => h i (by omega)
  obtain ⟨x,hx⟩ := h n (by omega)
  refine ⟨l ++ [x],by simp [hl],fun i hi => ?_⟩
  by_cases hin : i < n
  ·have := hp i hin
   simpa [List.getD,List.getElem?_append,hl,hin] using this
  ·have : i = n := by omega
   subst this
   simpa [List.getD,hl] using hx
open Go.ChangeShapes Go.WideShapes Go.ChangeAt Go.RowKit
def Ints (w : World) (v : Value) (zs : List Int) : Prop :=
 ∃ a cap,v = .slice a zs.length cap ∧ ∀ i,i < zs.length → ∃ g off,a = some ⟨g,off,none⟩ ∧ g < w.heap.size ∧ w.cell? ⟨g,off + i,none⟩ = some (.int .i64 (zs.getD i 0))
theorem Ints.kept {w w' : World} {v : Value} {zs : List Int} (h : Ints w v zs) (hb : Below w.heap.size w w') : Ints w' v zs := by
 obtain ⟨a,cap,rfl,hc⟩ := h
 refine ⟨a,cap,rfl,fun i hi => ?_⟩
 obtain ⟨g,off,rfl,hg,h1⟩ := hc i hi
 exact ⟨g,off,rfl,Nat.lt_of_lt_of_le hg hb.size,(hb.cell (p := ⟨g,off + i,none⟩) hg).trans h1⟩
def Txts (w : World) (v : Value) (ls : List (List UInt8)) : Prop :=
 ∃ a cap,v = .slice a ls.length cap ∧ ∀ i,i < ls.length → ∃ g off,a = some ⟨g,off,none⟩ ∧ g < w.heap.size ∧ w.cell? ⟨g,off + i,none⟩ = some (.string ⟨(ls.getD i []).toArray⟩)
theorem Txts.kept {w w' : World} {v : Value} {ls : List (List UInt8)} (h : Txts w v ls) (hb : Below w.heap.size w w') : Txts w' v ls := by
 obtain ⟨a,cap,rfl,hc⟩ := h
 refine ⟨a,cap,rfl,fun i hi => ?_⟩
 obtain ⟨g,off,rfl,hg,h1⟩ := hc i hi
 exact ⟨g,off,rfl,Nat.lt_of_lt_of_le hg hb.size,(hb.cell (p := ⟨g,off + i,none⟩) hg).trans h1⟩
open Go.ChangeShapes Go.WideShapes Go.ChangeAt Go.RowKit
def recV (x : Cr.Rec) : Value := .agg #[.int .i64 x.off,.string ⟨x.key.toArray⟩,.string ⟨x.val.toArray⟩,.bool x.gone]
def RecOk (x : Cr.Rec) : Prop := Bd.inR x.off ∧ x.key.length ≤ maxLen ∧ x.val.length ≤ maxLen
def Recs (w : World) (v : Value) (l : List Cr.Rec) : Prop :=
 ∃ a cap,v = .slice a l.length cap ∧ ∀ i x,l[i]? = some x → ∃ g off,a = some ⟨g,off,none⟩ ∧ g < w.heap.size ∧ w.cell? ⟨g,off + i * 4,none⟩ = some (.int .i64 x.off) ∧ w.cell? ⟨g,off + i * 4 + 1,none⟩ = some (.string ⟨x.key.toArray⟩) ∧
  w.cell? ⟨g,off + i * 4 + 2,none⟩ = some (.string ⟨x.val.toArray⟩) ∧ w.cell? ⟨g,off + i * 4 + 3,none⟩ = some (.bool x.gone)
theorem Recs.kept {w w' : World} {v : Value} {l : List Cr.Rec} (h : Recs w v l) (hb : Below w.heap.size w w') : Recs w' v l := by
 obtain ⟨a,cap,rfl,hc⟩ := h
 refine ⟨a,cap,rfl,fun i x hi => ?_⟩
 obtain ⟨g,off,rfl,hg,h1,h2,h3,h4⟩ := hc i x hi
 exact ⟨g,off,rfl,Nat.lt_of_lt_of_le hg hb.size,(hb.cell (p := ⟨g,off + i * 4,none⟩) hg).trans h1,(hb.cell (p := ⟨g,off + i * 4 + 1,none⟩) hg).trans h2,(hb.cell (p := ⟨g,off + i * 4 + 2,none⟩) hg).trans h3,(hb.cell (p := ⟨g,off + i * 4 + 3,none⟩) hg).trans h4⟩
theorem isNum_any (n : Int) (w : World) : Calls Tryz.prog 106 #[.int .i64 n] w fun e w' => e = .returned (.bool (Cr.isNum n)) ∧ w' = w := by
 by_cases h0 : 0 ≤ n
 ·by_cases h1 : n ≤ 1099511627776
  ·have HE : Hid (Cr.isNum n = true) := by simp [Hid,Cr.isNum,h0,h1]
   go_enter Tryz.func106,Tryz.ntmps106
   go_wp2
   go_ret
   refine ⟨?_,rfl⟩
   rw [HE.out]
   first | rfl | exact congrArg (fun b => Ending.returned (.bool b)) (decide_eq_true h1)
  ·have HE : Hid (Cr.isNum n = false) := by simp [Hid,Cr.isNum,h0,h1]
   go_enter Tryz.func106,Tryz.ntmps106
   go_wp2
   go_ret
   refine ⟨?_,rfl⟩
   rw [HE.out]
   first | rfl | exact congrArg (fun b => Ending.returned (.bool b)) (decide_eq_false h1)
 ·have HE : Hid (Cr.isNum n = false) := by simp [Hid,Cr.isNum,h0]
  go_enter Tryz.func106,Tryz.ntmps106
  go_wp2
  go_ret
  exact ⟨by rw [HE.out]; rfl,rfl⟩
theorem flag_any (b : Bool) (w : World) : Calls Tryz.prog 114 #[.bool b] w fun e w' => e = .returned (.int .i64 (Cr.flag b)) ∧ w' = w := by
 cases b <;>
 ·go_enter Tryz.func114,Tryz.ntmps114
  go_wp2
  go_ret
  exact ⟨rfl,rfl⟩
theorem isRec_any (x : Cr.Rec) (hx : RecOk x) (w : World) : Calls Tryz.prog 107 #[recV x] w fun e w' => e = .returned (.bool (Cr.isRec x)) ∧ Below w.heap.size w w' := by
 obtain ⟨o,k,v,g⟩ := x
 obtain ⟨_,hk,hv⟩ := hx
 unfold maxLen at hk hv
 simp only at hk hv
 have HB : Hid (Below w.heap.size w (w.alloc (.cells #[.int .i64 o,.string ⟨k.toArray⟩,.string ⟨v.toArray⟩,.bool g] 67))) := (Below.refl _ _).alloc (Nat.le_refl _) _
 have fin : ∀ (b c : Bool),b = c → Ending.returned (.bool b) = Ending.returned (.bool c) := fun b c h => by rw [h]
 by_cases h1 : k.length ≤ 16
 ·by_cases h2 : v.length ≤ 64
  ·cases g with
   | false =>
    have HE : Hid (Cr.isRec ⟨o,k,v,false⟩ = true) := by simp [Hid,Cr.isRec,h1,h2]
    unfold recV
    go_enter Tryz.func107,Tryz.ntmps107
    go_wp2
    go_ret
    exact ⟨by rw [HE.out]; rfl,HB.out⟩
   | true =>
    cases v with
    | nil =>
     have HE : Hid (Cr.isRec ⟨o,k,[],true⟩ = true) := by simp [Hid,Cr.isRec,h1]
     unfold recV
     go_enter Tryz.func107,Tryz.ntmps107
     go_wp2
     go_ret
     exact ⟨by rw [HE.out]; rfl,HB.out⟩
    | cons c r =>
     have HE : Hid (Cr.isRec ⟨o,k,c::r,true⟩ = false) := by simp [Hid,Cr.isRec]
     have h2' : r.length ≤ 63 := by simpa using h2
     unfold recV
     go_enter Tryz.func107,Tryz.ntmps107
     go_wp2
     go_ret
     exact ⟨by rw [HE.out]; rfl,HB.out⟩
  ·have HE : Hid (Cr.isRec ⟨o,k,v,g⟩ = false) := by simp [Hid,Cr.isRec,h2]
   unfold recV
   go_enter Tryz.func107,Tryz.ntmps107
   go_wp2
   go_ret
   exact ⟨by rw [HE.out]; rfl,HB.out⟩
 ·have HE : Hid (Cr.isRec ⟨o,k,v,g⟩ = false) := by simp [Hid,Cr.isRec,h1]
  unfold recV
  go_enter Tryz.func107,Tryz.ntmps107
  go_wp2
  go_ret
  exact ⟨by rw [HE.out]; rfl,HB.out⟩
open Go.RowKit
def batV (b : Cr.Batch) (rv : Value) : Value := .agg #[.int .i64 b.base,.int .i64 b.count,.int .i64 b.prod,.int .i64 b.seq,.int .i64 b.time,rv]
def batCells (b : Cr.Batch) (rv : Value) : Array Value := #[.int .i64 b.base,.int .i64 b.count,.int .i64 b.prod,.int .i64 b.seq,.int .i64 b.time,rv]
def BatOk (b : Cr.Batch) : Prop := Bd.inR b.base ∧ Bd.inR b.count ∧ Bd.inR b.prod ∧ Bd.inR b.seq ∧ Bd.inR b.time ∧ b.recs.length ≤ maxLen ∧ ∀ x ∈ b.recs,RecOk x
theorem four_cells (w : World) (a b c d : Int) (k : Nat) (h : k < 4) (W : World) (hb : Below (w.alloc (.cells #[.int .i64 a,.int .i64 b,.int .i64 c,.int .i64 d] 3)).heap.size (w.alloc (.cells #[.int .i64 a,.int .i64 b,.int .i64 c,.int .i64 d] 3)) W) :
  W.cell? ⟨w.heap.size,k,none⟩ = some (.int .i64 ([a,b,c,d].getD k 0)) := by
 have e1 := (hb.block w.heap.size (by simp)).trans (heap_alloc_new w _)
 match k,h with
 | 0,_ => simp [World.cell?,e1]
 | 1,_ => simp [World.cell?,e1]
 | 2,_ => simp [World.cell?,e1]
 | 3,_ => simp [World.cell?,e1]
theorem bat_cells (w : World) (b : Cr.Batch) (rv : Value) (W : World) (hb : Below (w.alloc (.cells (batCells b rv) 36)).heap.size (w.alloc (.cells (batCells b rv) 36)) W) :
  W.cell? ⟨w.heap.size,0,none⟩ = some (.int .i64 b.base) ∧ W.cell? ⟨w.heap.size,1,none⟩ = some (.int .i64 b.count) ∧ W.cell? ⟨w.heap.size,2,none⟩ = some (.int .i64 b.prod) ∧ W.cell? ⟨w.heap.size,3,none⟩ = some (.int .i64 b.seq) ∧
   W.cell? ⟨w.heap.size,4,none⟩ = some (.int .i64 b.time) ∧ W.cell? ⟨w.heap.size,5,none⟩ = some rv := by
 have e1 := (hb.block w.heap.size (by simp)).trans (heap_alloc_new w _)
 simp [World.cell?,e1,batCells]
theorem rec_cells (w : World) (x : Cr.Rec) (W : World) (hb : Below (w.alloc (.cells #[.int .i64 x.off,.string ⟨x.key.toArray⟩,.string ⟨x.val.toArray⟩,.bool x.gone] 67)).heap.size (w.alloc (.cells #[.int .i64 x.off,.string ⟨x.key.toArray⟩,.string ⟨x.val.toArray⟩,.bool x.gone] 67)) W) :
  W.cell? ⟨w.heap.size,0,none⟩ = some (.int .i64 x.off) ∧ W.cell? ⟨w.heap.size,1,none⟩ = some (.string ⟨x.key.toArray⟩) ∧ W.cell? ⟨w.heap.size,2,none⟩ = some (.string ⟨x.val.toArray⟩) ∧ W.cell? ⟨w.heap.size,3,none⟩ = some (.bool x.gone) := by
 have e1 := (hb.block w.heap.size (by simp)).trans (heap_alloc_new w _)
 simp [World.cell?,e1]
theorem goodRecs_step (hi next : Int) (l : List Cr.Rec) (k : Nat) (x : Cr.Rec) (h : l[k]? = some x) : Cr.goodRecs hi next (l.drop k) = (Cr.isRec x && (decide (next ≤ x.off) && (decide (x.off < hi) && Cr.goodRecs hi (x.off + 1) (l.drop (k + 1))))) := by
 obtain ⟨hk,rfl⟩ := List.getElem?_eq_some_iff.1 h
 rw [List.drop_eq_getElem_cons hk]
 rfl
theorem good_any (b : Cr.Batch) (hok : BatOk b) (rv : Value) (w : World) (h : Recs w rv b.recs) :
  Calls Tryz.prog 75 #[batV b rv] w fun e w' => e = .returned (.bool (Cr.good b)) ∧ Below w.heap.size w w' := by
 have HB0 : Hid (Below w.heap.size w (w.alloc (.cells (batCells b rv) 36))) := (Below.refl _ _).alloc (Nat.le_refl _) _
 have HZ := hq' h
 have HC := hq' (bat_cells w b rv)
 have hsz : (w.alloc (.cells (batCells b rv) 36)).heap.size = w.heap.size + 1 := World.size_alloc _ _
 have hw0 : w.alloc (.cells #[.int .i64 b.base,.int .i64 b.count,.int .i64 b.prod,.int .i64 b.seq,.int .i64 b.time,rv] 36) = w.alloc (.cells (batCells b rv) 36) := rfl
 have HW0 := hq' hw0
 have HG : Hid (Cr.good b = (Cr.isNum b.base && (Cr.isNum b.prod && (Cr.isNum b.seq && (Cr.isNum b.time && (decide (1 ≤ b.count) && (decide (b.count ≤ 8) && (decide (b.base ≤ 1099511627776 - b.count) &&
  (decide ((b.recs.length : Int) ≤ b.count) && Cr.goodRecs (b.base + b.count) b.base b.recs))))))))) := rfl
 obtain ⟨⟨o1,o2⟩,⟨o3,o4⟩,⟨o5,o6⟩,⟨o7,o8⟩,⟨o9,o10⟩,o11,o12⟩ := hok
 have HR := hq' o12
 obtain ⟨a,cap,hrv,-⟩ := h
 obtain ⟨base,count,prod,seq,time,recs⟩ := b
 simp only at *
 clear hw0 o12
 unfold maxLen at o11
 unfold batV
 simp only
 subst hrv
 go_enter Tryz.func75,Tryz.ntmps75
 go_wp2_with fail
 rw [HW0.out]
 clear HW0
 generalize w.alloc (.cells (batCells ⟨base,count,prod,seq,time,recs⟩ (.slice a recs.length cap)) 36) = w0 at *
 have HF := hq' (four_cells w0 base prod seq time)
 have B1 : Hid (Below w0.heap.size w0 (w0.alloc (.cells #[.int .i64 base,.int .i64 prod,.int .i64 seq,.int .i64 time] 3))) := (Below.refl _ _).alloc (Nat.le_refl _) _
 generalize w0.alloc (.cells #[.int .i64 base,.int .i64 prod,.int .i64 seq,.int .i64 time] 3) = w1 at *
 go_loopw [18] (fun i wr => ∃ k : Nat,i = .int .i64 k ∧ k ≤ 4 ∧ (∀ j,j < k → Cr.isNum ([base,prod,seq,time].getD j 0) = true) ∧ Below w1.heap.size w1 wr) (fun i _ => 4 - (intOf i).toNat)
 case atStart => exact ⟨0,rfl,by omega,fun j hj => by omega,Below.refl _ _⟩
 case round =>
  obtain ⟨k,rfl,hk,hn,hb⟩ := hrel
  have HN := hq' hn
  have HB := hq' hb
  clear hn hb
  have BW : Hid (Below w.heap.size w wr) := HB0.out.trans ((B1.out.trans (HB.out.mono B1.out.size)).mono HB0.out.size)
  by_cases hlt : k < 4
  ·have hc1 := HF.out k hlt _ HB.out
   rw [hsz] at hc1
   have HNI := hq' (fun w => isNum_any ([base,prod,seq,time].getD k 0) w)
   have HNX : Hid (Cr.isNum ([base,prod,seq,time].getD k 0) = true → ∀ j,j < k + 1 → Cr.isNum ([base,prod,seq,time].getD j 0) = true) := fun h j hj => by
    by_cases e : j = k
    ·rw [e]; exact h
    ·exact HN.out j (by omega)
   have HNG : Hid (Cr.isNum ([base,prod,seq,time].getD k 0) = false → Cr.good ⟨base,count,prod,seq,time,recs⟩ = false) := fun h => by
    rw [HG.out]
    match k,hlt,h with
    | 0,_,h => rw [show Cr.isNum base = false from h]; rfl
    | 1,_,h => rw [show Cr.isNum prod = false from h]; simp
    | 2,_,h => rw [show Cr.isNum seq = false from h]; simp
    | 3,_,h => rw [show Cr.isNum time = false from h]; simp
   generalize [base,prod,seq,time].getD k 0 = n at *
   cases hb : Cr.isNum n with
   | true =>
    rw [hb] at HNI
    have HX := hq' (HNX.out hb)
    clear HNX HNG hb
    go_wp2_with fail
    refine (HNI.out _).mono ?_
    rintro e w5 ⟨rfl,rfl⟩
    go_wp2
    go_roundw
    case rel => exact ⟨k + 1,by go_num,by omega,HX.out,HB.out⟩
    case measure => simp [intOf]; omega
   | false =>
    rw [hb] at HNI
    have HX := hq' (HNG.out hb)
    clear HNX HNG hb
    go_wp2_with fail
    refine (HNI.out _).mono ?_
    rintro e w5 ⟨rfl,rfl⟩
    go_wp2
    go_ret
    exact ⟨by rw [HX.out]; rfl,BW.out⟩
  ·obtain rfl : k = 4 := by omega
   have n0 : Cr.isNum base = true := HN.out 0 (by omega)
   have n1 : Cr.isNum prod = true := HN.out 1 (by omega)
   have n2 : Cr.isNum seq = true := HN.out 2 (by omega)
   have n3 : Cr.isNum time = true := HN.out 3 (by omega)
   have HG2 : Hid (Cr.good ⟨base,count,prod,seq,time,recs⟩ = (decide (1 ≤ count) && (decide (count ≤ 8) && (decide (base ≤ 1099511627776 - count) && (decide ((recs.length : Int) ≤ count) && Cr.goodRecs (base + count) base recs))))) := by
    rw [Hid,HG.out,n0,n1,n2,n3]
    rfl
   simp only [Cr.isNum,Bool.and_eq_true,decide_eq_true_eq] at n0
   obtain ⟨n0,n00⟩ := n0
   clear n1 n2 n3 HG HN
   have HBB : Hid (Below w0.heap.size w0 wr) := B1.out.trans (HB.out.mono B1.out.size)
   obtain ⟨c0,c1,c2,c3,c4,c5⟩ := HC.out _ HBB.out
   by_cases hc : 1 ≤ count ∧ count ≤ 8 ∧ base ≤ 1099511627776 - count ∧ (recs.length : Int) ≤ count
   ·obtain ⟨d1,d2,d3,d4⟩ := hc
    have HH : Hid (Cr.good ⟨base,count,prod,seq,time,recs⟩ = Cr.goodRecs (base + count) base recs) := by
     rw [Hid,HG2.out,decide_eq_true d1,decide_eq_true d2,decide_eq_true d3,decide_eq_true d4]
     rfl
    have HZr : Hid (Recs wr (.slice a recs.length cap) recs) := HZ.out.kept BW.out
    clear HG2 HZ HB B1 HF
    generalize wr = w3 at *
    go_wp2_with fail
    go_loopw [55,5] (fun i nx w4 => ∃ (k : Nat) (n : Int),i = .int .i64 k ∧ nx = .int .i64 n ∧ k ≤ recs.length ∧ Cr.goodRecs (base + count) base recs = Cr.goodRecs (base + count) n (recs.drop k) ∧ Below w3.heap.size w3 w4) (fun i _ _ => recs.length - (intOf i).toNat)
    case atStart => exact ⟨0,base,rfl,rfl,by omega,rfl,Below.refl _ _⟩
    case round =>
     obtain ⟨k,n,rfl,rfl,hk2,hr,hb2⟩ := hrel
     have HR2 := hq' hr
     have B2 := hq' hb2
     have BW2 : Hid (Below w.heap.size w wr) := bt BW.out B2.out
     clear hr hb2
     by_cases hlt : k < recs.length
     ·obtain ⟨x,hx⟩ : ∃ x,recs[k]? = some x := ⟨recs[k],by simp [hlt]⟩
      have hxo := HR.out x (List.mem_of_getElem? hx)
      have HS := hq' (goodRecs_step (base + count) n recs k x hx)
      obtain ⟨a',cap',he,hcells⟩ := HZr.out
      injection he with he1 he2 he3
      subst he1 he3
      obtain ⟨g,off,rfl,hg,q0,q1,q2,q3⟩ := hcells k x hx
      have p0 := (B2.out.cell (p := ⟨g,off + k * 4,none⟩) hg).trans q0
      have p1 := (B2.out.cell (p := ⟨g,off + k * 4 + 1,none⟩) hg).trans q1
      have p2 := (B2.out.cell (p := ⟨g,off + k * 4 + 2,none⟩) hg).trans q2
      have p3 := (B2.out.cell (p := ⟨g,off + k * 4 + 3,none⟩) hg).trans q3
      obtain ⟨x0,xk,xv,xg⟩ := x
      obtain ⟨⟨xo1,xo2⟩,xkl,xvl⟩ := hxo
      simp only at p0 p1 p2 p3 xo1 xo2 xkl xvl
      clear q0 q1 q2 q3 hcells he2
      have BA : Hid (Below w.heap.size w (wr.alloc (.cells #[.int .i64 x0,.string ⟨xk.toArray⟩,.string ⟨xv.toArray⟩,.bool xg] 67))) := BW2.out.alloc BW2.out.size _
      have B2A : Hid (Below w3.heap.size w3 (wr.alloc (.cells #[.int .i64 x0,.string ⟨xk.toArray⟩,.string ⟨xv.toArray⟩,.bool xg] 67))) := B2.out.alloc B2.out.size _
      have HCX := hq' (rec_cells wr ⟨x0,xk,xv,xg⟩)
      have HN := hq' (fun w => isRec_any ⟨x0,xk,xv,xg⟩ ⟨⟨xo1,xo2⟩,xkl,xvl⟩ w)
      have hHS : Cr.goodRecs (base + count) n (recs.drop k) = (Cr.isRec ⟨x0,xk,xv,xg⟩ && (decide (n ≤ x0) && (decide (x0 < base + count) && Cr.goodRecs (base + count) (x0 + 1) (recs.drop (k + 1))))) := HS.out
      by_cases hok : Cr.isRec ⟨x0,xk,xv,xg⟩ = true ∧ n ≤ x0 ∧ x0 < base + count
      ·obtain ⟨k1,k2,k3⟩ := hok
       have HX : Hid (Cr.goodRecs (base + count) base recs = Cr.goodRecs (base + count) (x0 + 1) (recs.drop (k + 1))) := by
        rw [Hid,HR2.out,hHS,k1,decide_eq_true k2,decide_eq_true k3]
        rfl
       rw [k1] at HN
       clear hHS HS k1
       go_wp2_with fail
       refine (HN.out _).mono ?_
       rintro e w6 ⟨rfl,hb6⟩
       have B6 : Hid (Below w3.heap.size w3 w6) := bt B2A.out hb6
       obtain ⟨t0,t1,t2,t3⟩ := HCX.out _ hb6
       obtain ⟨e0,e1,_,_,_,e5⟩ := HC.out _ (bt HBB.out B6.out)
       try dsimp only at t0 e0 e1
       clear hb6
       go_wp2
       go_roundw
       case rel => exact ⟨k + 1,x0 + 1,by go_num,by go_num,by omega,HX.out,B6.out⟩
       case measure => simp [intOf]; omega
      ·have HX : Hid (Cr.good ⟨base,count,prod,seq,time,recs⟩ = false) := by
        rw [Hid,HH.out,HR2.out,hHS]
        cases h : (Cr.isRec ⟨x0,xk,xv,xg⟩ && (decide (n ≤ x0) && (decide (x0 < base + count) && Cr.goodRecs (base + count) (x0 + 1) (recs.drop (k + 1))))) with
        | false => rfl
        | true =>
         simp only [Bool.and_eq_true,decide_eq_true_eq] at h
         exact absurd ⟨h.1,h.2.1,h.2.2.1⟩ hok
       clear hHS HS
       cases hb : Cr.isRec ⟨x0,xk,xv,xg⟩ with
       | false =>
        rw [hb] at HN
        clear hb hok
        go_wp2_with fail
        refine (HN.out _).mono ?_
        rintro e w6 ⟨rfl,hb6⟩
        have B6 : Hid (Below w.heap.size w w6) := bt BA.out hb6
        obtain ⟨t0,t1,t2,t3⟩ := HCX.out _ hb6
        obtain ⟨e0,e1,_,_,_,e5⟩ := HC.out _ (bt HBB.out (bt B2A.out hb6))
        try dsimp only at t0 e0 e1
        clear hb6
        go_wp2
        go_ret
        exact ⟨by rw [HX.out]; rfl,B6.out⟩
       | true =>
        rw [hb] at HN
        by_cases hn : n ≤ x0
        ·have hn2 : ¬ x0 < base + count := fun h => hok ⟨hb,hn,h⟩
         clear hb hok
         go_wp2_with fail
         refine (HN.out _).mono ?_
         rintro e w6 ⟨rfl,hb6⟩
         have B6 : Hid (Below w.heap.size w w6) := bt BA.out hb6
         obtain ⟨t0,t1,t2,t3⟩ := HCX.out _ hb6
         obtain ⟨e0,e1,_,_,_,e5⟩ := HC.out _ (bt HBB.out (bt B2A.out hb6))
         try dsimp only at t0 e0 e1
         clear hb6
         go_wp2
         go_ret
         exact ⟨by rw [HX.out]; rfl,B6.out⟩
        ·clear hb hok
         go_wp2_with fail
         refine (HN.out _).mono ?_
         rintro e w6 ⟨rfl,hb6⟩
         have B6 : Hid (Below w.heap.size w w6) := bt BA.out hb6
         obtain ⟨t0,t1,t2,t3⟩ := HCX.out _ hb6
         obtain ⟨e0,e1,_,_,_,e5⟩ := HC.out _ (bt HBB.out (bt B2A.out hb6))
         try dsimp only at t0 e0 e1
         clear hb6
         go_wp2
         go_ret
         exact ⟨by rw [HX.out]; rfl,B6.out⟩
     ·obtain rfl : k = recs.length := by omega
      have HX : Hid (Cr.good ⟨base,count,prod,seq,time,recs⟩ = true) := by
       rw [Hid,HH.out,HR2.out,List.drop_length]
       rfl
      go_wp2
      go_ret
      exact ⟨by rw [HX.out]; rfl,BW2.out⟩
   ·have HX : Hid (Cr.good ⟨base,count,prod,seq,time,recs⟩ = false) := by
     rw [Hid,HG2.out]
     by_cases e1 : 1 ≤ count
     ·by_cases e2 : count ≤ 8
      ·by_cases e3 : base ≤ 1099511627776 - count
       ·rw [decide_eq_false (p := (recs.length : Int) ≤ count) (fun e4 => hc ⟨e1,e2,e3,e4⟩)]; simp
       ·rw [decide_eq_false e3]; simp
      ·rw [decide_eq_false e2]; simp
     ·rw [decide_eq_false e1]; rfl
    go_wp2
    all_goals first
     | (exfalso; omega)
     | (go_ret; exact ⟨by rw [HX.out]; rfl,BW.out⟩)
theorem Recs.get {w w' : World} {v : Value} {l : List Cr.Rec} (h : Recs w v l) (hb : Below w.heap.size w w') {k : Nat} {x : Cr.Rec} (hk : l[k]? = some x) : ∃ g off cap,v = .slice (some ⟨g,off,none⟩) l.length cap ∧ g < w.heap.size ∧
  w'.cell? ⟨g,off + k * 4,none⟩ = some (.int .i64 x.off) ∧ w'.cell? ⟨g,off + k * 4 + 1,none⟩ = some (.string ⟨x.key.toArray⟩) ∧ w'.cell? ⟨g,off + k * 4 + 2,none⟩ = some (.string ⟨x.val.toArray⟩) ∧ w'.cell? ⟨g,off + k * 4 + 3,none⟩ = some (.bool x.gone) := by
 obtain ⟨a,cap,rfl,hc⟩ := h
 obtain ⟨g,off,rfl,hg,h1,h2,h3,h4⟩ := hc k x hk
 exact ⟨g,off,cap,rfl,hg,(hb.cell (p := ⟨g,off + k * 4,none⟩) hg).trans h1,(hb.cell (p := ⟨g,off + k * 4 + 1,none⟩) hg).trans h2,(hb.cell (p := ⟨g,off + k * 4 + 2,none⟩) hg).trans h3,(hb.cell (p := ⟨g,off + k * 4 + 3,none⟩) hg).trans h4⟩
theorem Recs.form {w : World} {v : Value} {l : List Cr.Rec} (h : Recs w v l) : ∃ a cap,v = .slice a l.length cap := by
 obtain ⟨a,cap,rfl,_⟩ := h
 exact ⟨a,cap,rfl⟩
def idxBad : Nat → List Cr.Rec → Int
 | _,[] => -1
 | k,x::r => if Cr.isRec x then idxBad (k + 1) r else k
theorem idxBad_step (l : List Cr.Rec) (k : Nat) (x : Cr.Rec) (h : l[k]? = some x) : idxBad k (l.drop k) = if Cr.isRec x then idxBad (k + 1) (l.drop (k + 1)) else k := by
 obtain ⟨hk,rfl⟩ := List.getElem?_eq_some_iff.1 h
 rw [List.drop_eq_getElem_cons hk]
 rfl
theorem idxBad_all (l : List Cr.Rec) : ∀ k,decide (0 ≤ idxBad k l) = !l.all Cr.isRec ∧ -1 ≤ idxBad k l ∧ idxBad k l ≤ k + l.length := by
 induction l with
 | nil => intro k; simp [idxBad]
 | cons x r ih =>
  intro k
  cases h : Cr.isRec x with
  | true =>
   obtain ⟨h1,h2,h3⟩ := ih (k + 1)
   simp only [idxBad,h,if_true,List.all_cons,Bool.true_and,List.length_cons]
   exact ⟨h1,h2,by omega⟩
  | false =>
   simp [idxBad,h]
   omega
theorem all_step (l : List Cr.Rec) (k : Nat) (x : Cr.Rec) (h : l[k]? = some x) : (l.drop k).all Cr.isRec = (Cr.isRec x && (l.drop (k + 1)).all Cr.isRec) := by
 obtain ⟨hk,rfl⟩ := List.getElem?_eq_some_iff.1 h
 rw [List.drop_eq_getElem_cons hk]
 rfl
theorem fits1_any (x : Cr.Rec) (hx : RecOk x) (w : World) : Calls Tryz.prog 126 #[recV x] w fun e w' => e = .returned (.bool (!Cr.isRec x)) ∧ Below w.heap.size w w' := by
 have HN := hq' (fun w => isRec_any x hx w)
 obtain ⟨t0,t1,t2,t3⟩ := rec_cells w x _ (Below.refl _ _)
 obtain ⟨x0,xk,xv,xg⟩ := x
 have HB0 : Hid (Below w.heap.size w (w.alloc (.cells #[.int .i64 x0,.string ⟨xk.toArray⟩,.string ⟨xv.toArray⟩,.bool xg] 67))) := (Below.refl _ _).alloc (Nat.le_refl _) _
 generalize Cr.isRec ⟨x0,xk,xv,xg⟩ = r at HN
 clear hx
 unfold recV at *
 dsimp only at *
 go_enter Tryz.func126,Tryz.ntmps126
 go_wp2_with fail
 refine (HN.out _).mono ?_
 rintro e w1 ⟨rfl,hb⟩
 have HB := hq' (bt HB0.out hb)
 clear hb
 go_wp2
 go_ret
 exact ⟨rfl,HB.out⟩
theorem idx_any (l : List Cr.Rec) (hok : ∀ x ∈ l,RecOk x) (hl : l.length ≤ maxLen) (rv : Value) (w : World) (h : Recs w rv l) :
  Calls Tryz.prog 125 #[rv,.func (.func 126) #[] #[]] w fun e w' => e = .returned (.int .i64 (idxBad 0 l)) ∧ Below w.heap.size w w' := by
 have HZ := hq' h
 have HR := hq' hok
 obtain ⟨a,cap,rfl⟩ := h.form
 unfold maxLen at hl
 clear h hok
 go_enter Tryz.func125,Tryz.ntmps125
 go_wp2
 go_loopw [8] (fun i wr => ∃ k : Nat,i = .int .i64 k ∧ k ≤ l.length ∧ idxBad 0 l = idxBad k (l.drop k) ∧ Below w.heap.size w wr) (fun i _ => l.length - (intOf i).toNat)
 case atStart => exact ⟨0,rfl,by omega,rfl,Below.refl _ _⟩
 case round =>
  obtain ⟨k,rfl,hk,hr,hb⟩ := hrel
  have HR2 := hq' hr
  have HB := hq' hb
  clear hr hb
  by_cases hlt : k < l.length
  ·obtain ⟨x,hx⟩ : ∃ x,l[k]? = some x := ⟨l[k],by simp [hlt]⟩
   have HN := hq' (fun w => fits1_any x (HR.out x (List.mem_of_getElem? hx)) w)
   have HS := hq' (idxBad_step l k x hx)
   obtain ⟨g,off,cap',he,hg,p0,p1,p2,p3⟩ := HZ.out.get HB.out hx
   injection he with he1 he2 he3
   subst he1 he3
   obtain ⟨x0,xk,xv,xg⟩ := x
   unfold recV at HN
   dsimp only at *
   clear he2
   cases hb : Cr.isRec ⟨x0,xk,xv,xg⟩ with
   | true =>
    have HX : Hid (idxBad 0 l = idxBad (k + 1) (l.drop (k + 1))) := by rw [Hid,HR2.out,HS.out,hb]; rfl
    rw [hb] at HN
    clear HS hb
    go_wp2_with fail
    refine (HN.out _).mono ?_
    rintro e w5 ⟨rfl,hb5⟩
    have B5 := hq' (bt HB.out hb5)
    clear hb5
    go_wp2
    go_roundw
    case rel => exact ⟨k + 1,by go_num,by omega,HX.out,B5.out⟩
    case measure => simp [intOf]; omega
   | false =>
    have HX : Hid (idxBad 0 l = k) := by rw [Hid,HR2.out,HS.out,hb]; rfl
    rw [hb] at HN
    clear HS hb
    go_wp2_with fail
    refine (HN.out _).mono ?_
    rintro e w5 ⟨rfl,hb5⟩
    have B5 := hq' (bt HB.out hb5)
    clear hb5
    go_wp2
    go_ret
    exact ⟨by rw [HX.out]; rfl,B5.out⟩
  ·obtain rfl : k = l.length := by omega
   have HX : Hid (idxBad 0 l = -1) := by rw [Hid,HR2.out,List.drop_length]; rfl
   go_wp2
   go_ret
   exact ⟨by rw [HX.out]; rfl,HB.out⟩
theorem contains_any (l : List Cr.Rec) (hok : ∀ x ∈ l,RecOk x) (hl : l.length ≤ maxLen) (rv : Value) (w : World) (h : Recs w rv l) :
  Calls Tryz.prog 101 #[rv,.func (.func 126) #[] #[]] w fun e w' => e = .returned (.bool (!l.all Cr.isRec)) ∧ Below w.heap.size w w' := by
 have HI := hq' (idx_any l hok hl rv w h)
 obtain ⟨h1,h2,h3⟩ := idxBad_all l 0
 have H1 := hq' h1
 unfold maxLen at hl
 clear h hok h1
 generalize idxBad 0 l = n at *
 go_enter Tryz.func101,Tryz.ntmps101
 go_wp2_with fail
 refine HI.out.mono ?_
 rintro e w1 ⟨rfl,hb⟩
 have HB := hq' hb
 clear hb
 go_wp2
 go_ret
 refine ⟨?_,HB.out⟩
 rw [← H1.out]
 rfl
theorem fits_any (l : List Cr.Rec) (hok : ∀ x ∈ l,RecOk x) (hl : l.length ≤ maxLen) (rv : Value) (w : World) (h : Recs w rv l) :
  Calls Tryz.prog 103 #[rv] w fun e w' => e = .returned (.bool (Cr.fits l)) ∧ Below w.heap.size w w' := by
 have HI := hq' (contains_any l hok hl rv w h)
 have HE : Hid (Cr.fits l = (decide (1 ≤ l.length) && (decide (l.length ≤ 8) && l.all Cr.isRec))) := rfl
 obtain ⟨a,cap,rfl⟩ := h.form
 unfold maxLen at hl
 clear h hok
 by_cases h1 : 1 ≤ l.length
 ·by_cases h2 : l.length ≤ 8
  ·have HX : Hid (Cr.fits l = l.all Cr.isRec) := by rw [Hid,HE.out,decide_eq_true h1,decide_eq_true h2]; rfl
   generalize l.all Cr.isRec = r at HI HX
   generalize l.length = n at *
   go_enter Tryz.func103,Tryz.ntmps103
   go_wp2_with fail
   refine HI.out.mono ?_
   rintro e w1 ⟨rfl,hb⟩
   have HB := hq' hb
   clear hb
   go_wp2
   go_ret
   exact ⟨by rw [HX.out]; simp,HB.out⟩
  ·have HX : Hid (Cr.fits l = false) := by rw [Hid,HE.out,decide_eq_false h2]; simp
   generalize l.length = n at *
   go_enter Tryz.func103,Tryz.ntmps103
   go_wp2
   go_ret
   exact ⟨by rw [HX.out]; simp,Below.refl _ _⟩
 ·have HX : Hid (Cr.fits l = false) := by rw [Hid,HE.out,decide_eq_false h1]; simp
  obtain rfl : l = [] := List.eq_nil_of_length_eq_zero (by omega)
  go_enter Tryz.func103,Tryz.ntmps103
  go_wp2
  go_ret
  exact ⟨by rw [HX.out]; simp,Below.refl _ _⟩
theorem rec_neq (x0 y0 : Int) (xk yk xv yv : List UInt8) (xg yg : Bool) (w : World) :
  (binOp .neq 67 (.agg #[.int .i64 x0,.string ⟨xk.toArray⟩,.string ⟨xv.toArray⟩,.bool xg]) (.agg #[.int .i64 y0,.string ⟨yk.toArray⟩,.string ⟨yv.toArray⟩,.bool yg])).run Tryz.prog w = .ok (.bool (!Cr.recEq ⟨x0,xk,xv,xg⟩ ⟨y0,yk,yv,yg⟩)) w := by
 have hS : Tryz.prog.underlying 67 = some (.struct (Tryz.prog.fieldsOf 67)) := by kernel_rfl
 have hp : Tryz.prog.stoodInHeld 67 = false := by kernel_rfl
 rw [run_neq_struct,show (10000 : Nat) = 9999 + 1 from rfl,run_equalIn_agg w 9999 67 _ _ hS hp]
 simp only [Program.fieldsOf,Tryz.underlying67]
 have u1 := Tryz.underlying3
 have u2 := Tryz.underlying9
 have u3 := Tryz.underlying4
 have a1 := Tryz.isAgg3
 have a2 := Tryz.isAgg9
 have a3 := Tryz.isAgg4
 have z1 := Tryz.sizeOf3
 have z2 := Tryz.sizeOf9
 have z3 := Tryz.sizeOf4
 go_simp
 unfold Cr.recEq
 by_cases h1 : x0 = y0 <;> by_cases h2 : xk = yk <;> by_cases h3 : xv = yv <;> by_cases h4 : xg = yg <;> simp [h1,h2,h3,h4]
theorem recsEq_len {l r : List Cr.Rec} (h : l.length ≠ r.length) : Cr.recsEq l r = false := by
 cases hc : Cr.recsEq l r with
 | false => rfl
 | true => exact absurd (congrArg List.length (Cr.recsEq_iff.1 hc)) h
theorem recsEq_step {l r : List Cr.Rec} {k : Nat} {x y : Cr.Rec} (hx : l[k]? = some x) (hy : r[k]? = some y) : Cr.recsEq (l.drop k) (r.drop k) = (Cr.recEq x y && Cr.recsEq (l.drop (k + 1)) (r.drop (k + 1))) := by
 obtain ⟨hk,rfl⟩ := List.getElem?_eq_some_iff.1 hx
 obtain ⟨hk2,rfl⟩ := List.getElem?_eq_some_iff.1 hy
 rw [List.drop_eq_getElem_cons hk,List.drop_eq_getElem_cons hk2]
 rfl
theorem equal_any (l r : List Cr.Rec) (hl : l.length ≤ maxLen) (hr : r.length ≤ maxLen) (lv rv : Value) (w : World) (h1 : Recs w lv l) (h2 : Recs w rv r) :
  Calls Tryz.prog 64 #[lv,rv] w fun e w' => e = .returned (.bool (Cr.recsEq l r)) ∧ Below w.heap.size w w' := by
 have H1 := hq' h1
 have H2 := hq' h2
 obtain ⟨a1,cap1,rfl⟩ := h1.form
 obtain ⟨a2,cap2,rfl⟩ := h2.form
 unfold maxLen at hl hr
 clear h1 h2
 by_cases hlen : l.length = r.length
 ·go_enter Tryz.func64,Tryz.ntmps64
  go_wp2
  go_loopw [13] (fun i wr => ∃ k : Nat,i = .int .i64 k ∧ k ≤ l.length ∧ Cr.recsEq l r = Cr.recsEq (l.drop k) (r.drop k) ∧ Below w.heap.size w wr) (fun i _ => l.length - (intOf i).toNat)
  case atStart => exact ⟨0,rfl,by omega,rfl,Below.refl _ _⟩
  case round =>
   obtain ⟨k,rfl,hk,hq,hb⟩ := hrel
   have HQ := hq' hq
   have HB := hq' hb
   clear hq hb
   by_cases hlt : k < l.length
   ·obtain ⟨x,hx⟩ : ∃ x,l[k]? = some x := ⟨l[k],by simp [hlt]⟩
    obtain ⟨y,hy⟩ : ∃ y,r[k]? = some y := ⟨r[k]'(by omega),by simp [← hlen,hlt]⟩
    have HS := hq' (recsEq_step hx hy)
    obtain ⟨g,off,cap',he,hg,p0,p1,p2,p3⟩ := H1.out.get HB.out hx
    injection he with he1 he2 he3
    subst he1 he3
    obtain ⟨g2,off2,cap2',he',hg2,s0,s1,s2,s3⟩ := H2.out.get HB.out hy
    injection he' with he1' he2' he3'
    subst he1' he3'
    obtain ⟨x0,xk,xv,xg⟩ := x
    obtain ⟨y0,yk,yv,yg⟩ := y
    dsimp only at *
    clear he2 he2'
    have hn := fun w => rec_neq x0 y0 xk yk xv yv xg yg w
    have hk2 : k < r.length := by omega
    cases hb : Cr.recEq ⟨x0,xk,xv,xg⟩ ⟨y0,yk,yv,yg⟩ with
    | true =>
     have HX : Hid (Cr.recsEq l r = Cr.recsEq (l.drop (k + 1)) (r.drop (k + 1))) := by rw [Hid,HQ.out,HS.out,hb]; rfl
     simp only [hb,Bool.not_true] at hn
     clear HS hb
     go_wp2
     go_quiet (fail)
     have BQ : Hid (Below w.heap.size w (wr.drewN nq)) := below_drewN HB.out nq
     go_wp2
     go_roundw
     case rel => exact ⟨k + 1,by go_num,by omega,HX.out,BQ.out⟩
     case measure => simp [intOf]; omega
    | false =>
     have HX : Hid (Cr.recsEq l r = false) := by rw [Hid,HQ.out,HS.out,hb]; rfl
     simp only [hb,Bool.not_false] at hn
     clear HS hb
     go_wp2
     go_quiet (fail)
     have BQ : Hid (Below w.heap.size w (wr.drewN nq)) := below_drewN HB.out nq
     go_wp2
     go_ret
     exact ⟨by rw [HX.out]; rfl,BQ.out⟩
   ·obtain rfl : k = l.length := by omega
    have HX : Hid (Cr.recsEq l r = true) := by rw [Hid,HQ.out,List.drop_length,hlen,List.drop_length]; rfl
    go_wp2
    go_ret
    exact ⟨by rw [HX.out]; rfl,HB.out⟩
 ·have HX := hq' (recsEq_len hlen)
  go_enter Tryz.func64,Tryz.ntmps64
  go_wp2
  go_ret
  exact ⟨by rw [HX.out]; rfl,Below.refl _ _⟩
theorem same_any (a b : Cr.Batch) (ha : BatOk a) (hb : BatOk b) (av bv : Value) (w : World) (h1 : Recs w av a.recs) (h2 : Recs w bv b.recs) :
  Calls Tryz.prog 40 #[batV a av,batV b bv] w fun e w' => e = .returned (.bool (Cr.same a b)) ∧ Below w.heap.size w w' := by
 have H1 := hq' h1
 have H2 := hq' h2
 obtain ⟨aa,acap,rfl⟩ := h1.form
 obtain ⟨ba,bcap,rfl⟩ := h2.form
 have hla := ha.2.2.2.2.2.1
 have hlb := hb.2.2.2.2.2.1
 have hra := ha.2.2.2.2.2.2
 have hrb := hb.2.2.2.2.2.2
 obtain ⟨a0,a1,a2,a3,a4,al⟩ := a
 obtain ⟨b0,b1,b2,b3,b4,bl⟩ := b
 dsimp only at *
 have B1 : Hid (Below w.heap.size w (w.alloc (.cells #[.int .i64 a0,.int .i64 a1,.int .i64 a2,.int .i64 a3,.int .i64 a4,.slice aa al.length acap] 36))) := (Below.refl _ _).alloc (Nat.le_refl _) _
 have hsz : (w.alloc (.cells #[.int .i64 a0,.int .i64 a1,.int .i64 a2,.int .i64 a3,.int .i64 a4,.slice aa al.length acap] 36)).heap.size = w.heap.size + 1 := World.size_alloc _ _
 have C1 := hq' (bat_cells w ⟨a0,a1,a2,a3,a4,al⟩ (.slice aa al.length acap))
 have hw1 : w.alloc (.cells #[.int .i64 a0,.int .i64 a1,.int .i64 a2,.int .i64 a3,.int .i64 a4,.slice aa al.length acap] 36) = w.alloc (.cells (batCells ⟨a0,a1,a2,a3,a4,al⟩ (.slice aa al.length acap)) 36) := rfl
 have HW1 := hq' hw1
 have B2 : Hid (Below (w.alloc (.cells #[.int .i64 a0,.int .i64 a1,.int .i64 a2,.int .i64 a3,.int .i64 a4,.slice aa al.length acap] 36)).heap.size (w.alloc (.cells #[.int .i64 a0,.int .i64 a1,.int .i64 a2,.int .i64 a3,.int .i64 a4,.slice aa al.length acap] 36)) ((w.alloc (.cells #[.int .i64 a0,.int .i64 a1,.int .i64 a2,.int .i64 a3,.int .i64 a4,.slice aa al.length acap] 36)).alloc (.cells #[.int .i64 b0,.int .i64 b1,.int .i64 b2,.int .i64 b3,.int .i64 b4,.slice ba bl.length bcap] 36))) := (Below.refl _ _).alloc (Nat.le_refl _) _
 have C2 := hq' (bat_cells (w.alloc (.cells #[.int .i64 a0,.int .i64 a1,.int .i64 a2,.int .i64 a3,.int .i64 a4,.slice aa al.length acap] 36)) ⟨b0,b1,b2,b3,b4,bl⟩ (.slice ba bl.length bcap))
 have HE : Hid (Cr.same ⟨a0,a1,a2,a3,a4,al⟩ ⟨b0,b1,b2,b3,b4,bl⟩ = (a0 == b0 && a1 == b1 && a2 == b2 && a3 == b3 && a4 == b4 && Cr.recsEq al bl)) := rfl
 unfold maxLen at hla hlb
 rw [← hw1] at C1
 clear hw1 HW1 ha hb h1 h2
 unfold batV
 dsimp only
 unfold batCells at C2
 dsimp only at C1 C2
 have hsz2 : ((w.alloc (.cells #[.int .i64 a0,.int .i64 a1,.int .i64 a2,.int .i64 a3,.int .i64 a4,.slice aa al.length acap] 36)).alloc (.cells #[.int .i64 b0,.int .i64 b1,.int .i64 b2,.int .i64 b3,.int .i64 b4,.slice ba bl.length bcap] 36)).heap.size = w.heap.size + 2 := by rw [World.size_alloc,hsz]
 obtain ⟨d0,d1,d2,d3,d4,d5⟩ := C2.out _ (Below.refl _ _)
 obtain ⟨c0,c1,c2,c3,c4,c5⟩ := C1.out _ B2.out
 rw [hsz] at d0 d1 d2 d3 d4 d5
 by_cases e0 : a0 = b0
 rotate_left
 ·have HX : Hid (Cr.same ⟨a0,a1,a2,a3,a4,al⟩ ⟨b0,b1,b2,b3,b4,bl⟩ = false) := by
   rw [Hid,HE.out,show (a0 == b0) = false by simpa using e0]
   simp
  clear HE
  go_enter Tryz.func40,Tryz.ntmps40
  go_wp2
  go_ret
  exact ⟨by rw [HX.out]; rfl,bt B1.out B2.out⟩
 subst e0
 by_cases e1 : a1 = b1
 rotate_left
 ·have HX : Hid (Cr.same ⟨a0,a1,a2,a3,a4,al⟩ ⟨a0,b1,b2,b3,b4,bl⟩ = false) := by
   rw [Hid,HE.out,show (a1 == b1) = false by simpa using e1]
   simp
  clear HE
  go_enter Tryz.func40,Tryz.ntmps40
  go_wp2
  go_ret
  exact ⟨by rw [HX.out]; rfl,bt B1.out B2.out⟩
 subst e1
 by_cases e2 : a2 = b2
 rotate_left
 ·have HX : Hid (Cr.same ⟨a0,a1,a2,a3,a4,al⟩ ⟨a0,a1,b2,b3,b4,bl⟩ = false) := by
   rw [Hid,HE.out,show (a2 == b2) = false by simpa using e2]
   simp
  clear HE
  go_enter Tryz.func40,Tryz.ntmps40
  go_wp2
  go_ret
  exact ⟨by rw [HX.out]; rfl,bt B1.out B2.out⟩
 subst e2
 by_cases e3 : a3 = b3
 rotate_left
 ·have HX : Hid (Cr.same ⟨a0,a1,a2,a3,a4,al⟩ ⟨a0,a1,a2,b3,b4,bl⟩ = false) := by
   rw [Hid,HE.out,show (a3 == b3) = false by simpa using e3]
   simp
  clear HE
  go_enter Tryz.func40,Tryz.ntmps40
  go_wp2
  go_ret
  exact ⟨by rw [HX.out]; rfl,bt B1.out B2.out⟩
 subst e3
 by_cases e4 : a4 = b4
 rotate_left
 ·have HX : Hid (Cr.same ⟨a0,a1,a2,a3,a4,al⟩ ⟨a0,a1,a2,a3,b4,bl⟩ = false) := by
   rw [Hid,HE.out,show (a4 == b4) = false by simpa using e4]
   simp
  clear HE
  go_enter Tryz.func40,Tryz.ntmps40
  go_wp2
  go_ret
  exact ⟨by rw [HX.out]; rfl,bt B1.out B2.out⟩
 subst e4
 have HX : Hid (Cr.same ⟨a0,a1,a2,a3,a4,al⟩ ⟨a0,a1,a2,a3,a4,bl⟩ = Cr.recsEq al bl) := by
  rw [Hid,HE.out]
  simp
 have BB : Hid (Below w.heap.size w ((w.alloc (.cells #[.int .i64 a0,.int .i64 a1,.int .i64 a2,.int .i64 a3,.int .i64 a4,.slice aa al.length acap] 36)).alloc (.cells #[.int .i64 a0,.int .i64 a1,.int .i64 a2,.int .i64 a3,.int .i64 a4,.slice ba bl.length bcap] 36))) := bt B1.out B2.out
 have HQ := hq' (equal_any al bl hla hlb _ _ _ (H1.out.kept BB.out) (H2.out.kept BB.out))
 clear HE
 go_enter Tryz.func40,Tryz.ntmps40
 go_wp2_with fail
 refine HQ.out.mono ?_
 rintro e w5 ⟨rfl,hb5⟩
 have B5 := hq' (bt BB.out hb5)
 clear hb5
 go_wp2
 go_ret
 exact ⟨by rw [HX.out]; rfl,B5.out⟩
def Cl (w : World) (g : Nat) (cs : List Value) (t : TypeId) : Prop := w.heap[g]? = some (.cells cs.toArray t (0,0))
theorem Cl.cell {w : World} {g : Nat} {cs : List Value} {t : TypeId} (h : Cl w g cs t) (k : Nat) : w.cell? ⟨g,k,none⟩ = cs[k]? := by
 unfold Cl at h
 simp [World.cell?,h]
theorem Cl.free {w : World} {g : Nat} {cs : List Value} {t : TypeId} (h : Cl w g cs t) (k : Nat) : w.frozen? ⟨g,k,none⟩ = false := by
 unfold Cl at h
 simp [World.frozen?,h]
theorem Cl.lt {w : World} {g : Nat} {cs : List Value} {t : TypeId} (h : Cl w g cs t) : g < w.heap.size := (Array.getElem?_eq_some_iff.1 h).1
theorem Cl.new (w : World) (cs : List Value) (t : TypeId) : Cl (w.alloc (.cells cs.toArray t)) w.heap.size cs t := heap_alloc_new w _
theorem Cl.set {w : World} {g : Nat} {cs : List Value} {t : TypeId} (h : Cl w g cs t) (k : Nat) (u : Value) : Cl (w.setCell ⟨g,k,none⟩ u) g (cs.set k u) t := by
 unfold Cl at h ⊢
 simp [World.setCell,Array.getElem?_modify,h]
theorem Cl.other {w : World} {g : Nat} {cs : List Value} {t : TypeId} (h : Cl w g cs t) (p : Addr) (u : Value) (hp : p.block ≠ g) : Cl (w.setCell p u) g cs t := (Below.heap_setCell _ _ _ _ (fun e => hp e.symm)).trans h
theorem Cl.keep {S : Nat → Prop} {w w' : World} {g : Nat} {cs : List Value} {t : TypeId} (h : Cl w g cs t) (k : Keeps S w w') (hs : ¬ S g) : Cl w' g cs t := (k.block g h.lt hs).trans h
theorem Cl.below {w w' : World} {g : Nat} {cs : List Value} {t : TypeId} (h : Cl w g cs t) (hb : Below w.heap.size w w') : Cl w' g cs t := (hb.block g h.lt).trans h
theorem Cl.alloc {w : World} {g : Nat} {cs : List Value} {t : TypeId} (h : Cl w g cs t) (o : Obj) : Cl (w.alloc o) g cs t := (Below.heap_alloc w o g h.lt).trans h
theorem Cl.grown {w w' : World} {g : Nat} {cs : List Value} {t : TypeId} {row : Option Nat} (h : Cl w g cs t) (hg : w.grownBy w' row) (hne : some g ≠ row) : Cl w' g cs t := (hg.block g h.lt hne).trans h
theorem Cl.drewN {w : World} {g : Nat} {cs : List Value} {t : TypeId} (h : Cl w g cs t) (n : Nat) : Cl (w.drewN n) g cs t := h
theorem Cl.cell6 {w : World} {g : Nat} {a b c d e f : Value} {t : TypeId} (h : Cl w g [a,b,c,d,e,f] t) : w.cell? ⟨g,0,none⟩ = some a ∧ w.cell? ⟨g,1,none⟩ = some b ∧ w.cell? ⟨g,2,none⟩ = some c ∧ w.cell? ⟨g,3,none⟩ = some d ∧ w.cell? ⟨g,4,none⟩ = some e ∧ w.cell? ⟨g,5,none⟩ = some f :=
 ⟨h.cell 0,h.cell 1,h.cell 2,h.cell 3,h.cell 4,h.cell 5⟩
theorem Cl.free6 {w : World} {g : Nat} {cs : List Value} {t : TypeId} (h : Cl w g cs t) : w.frozen? ⟨g,0,none⟩ = false ∧ w.frozen? ⟨g,1,none⟩ = false ∧ w.frozen? ⟨g,2,none⟩ = false ∧ w.frozen? ⟨g,3,none⟩ = false ∧ w.frozen? ⟨g,4,none⟩ = false ∧ w.frozen? ⟨g,5,none⟩ = false :=
 ⟨h.free 0,h.free 1,h.free 2,h.free 3,h.free 4,h.free 5⟩
theorem Cl.cell4 {w : World} {g : Nat} {a b c d : Value} {t : TypeId} (h : Cl w g [a,b,c,d] t) : w.cell? ⟨g,0,none⟩ = some a ∧ w.cell? ⟨g,1,none⟩ = some b ∧ w.cell? ⟨g,2,none⟩ = some c ∧ w.cell? ⟨g,3,none⟩ = some d :=
 ⟨h.cell 0,h.cell 1,h.cell 2,h.cell 3⟩
theorem Sl.setc {w : World} {B size : Nat} {v : Value} {n : Nat} {xs : List Value} (h : Sl w B size v n xs) (k : Nat) (hk : k < n * size) (u : Value) :
  ∃ g off cap u0,v = .slice (some ⟨g,off,none⟩) n cap ∧ B ≤ g ∧ w.cell? ⟨g,off + k,none⟩ = some u0 ∧ w.frozen? ⟨g,off + k,none⟩ = false ∧ Sl (w.setCell ⟨g,off + k,none⟩ u) B size v n (xs.set k u) := by
 obtain ⟨hlen,h2⟩ := h
 rcases h2 with ⟨_,rfl⟩ | ⟨g,off,cap,rfl,hB,hg,hn,hm,hr,ht⟩
 ·rw [Nat.zero_mul] at hk; omega
 ·have hth := ht k (Nat.lt_of_lt_of_le hk (Nat.mul_le_mul_right _ hn))
  obtain ⟨u0,hu0⟩ := Option.isSome_iff_exists.1 hth.1
  refine ⟨g,off,cap,u0,rfl,hB,hu0,hth.2,by rw [List.length_set]; exact hlen,.inr ⟨g,off,cap,rfl,hB,by simpa [World.setCell] using hg,hn,hm,?_,?_⟩⟩
  ·intro j z hz
   rw [List.getElem?_set] at hz
   by_cases e : k = j
   ·subst e
    rw [if_pos rfl,if_pos (by omega)] at hz
    injection hz with hz
    subst hz
    exact World.cell?_setCell_same _ _ _ hu0
   ·rw [if_neg e] at hz
    rw [World.cell?_setCell_other _ _ _ _ (fun he => e (by injection he with _ he2; omega))]
    exact hr j z hz
  ·exact World.there_setCells (vs := [u]) ht g (off + k)
theorem results_cl_tmp {P : Program} {fn : Func} {p u : Tmp} {ty : TypeId} (h : fn.results = #[.cell p ty,.tmp u]) (tmps : Array Value) (w : World) (g : Nat) (t : TypeId) (cs : List Value) (d : TypeDesc) (hp : tmps.getD p undef = .pointer (some ⟨g,0,none⟩)) (hg : Cl w g cs t)
  (hu : P.underlying ty = some d) (hd : (match d with | .struct _ | .array _ _ => true | _ => false) = true) (hi : (P.info? ty).map (·.size) = some cs.length) : (results fn tmps).run P w = .ok (.tuple #[.agg cs.toArray,tmps.getD u undef]) w := by
 rw [results_cell_tmp h,hp]
 simp [asAddr,run_loadVar_row w g t ty cs.toArray (0,0) d hg hu hd (by simpa using hi)]
theorem Cl.src {w : World} {g : Nat} {cs : List Value} {t : TypeId} (h : Cl w g cs t) (size m c : Nat) (hl : cs.length = m * size) : SrcIs w size (.slice (some ⟨g,0,none⟩) m c) m cs :=
 .inr ⟨_,c,rfl,hl,fun j u hu => by
  have e : (Addr.add ⟨g,0,none⟩ j) = ⟨g,j,none⟩ := by
   unfold Addr.add
   split
   ·subst_vars; rfl
   ·simp
  rw [e,h.cell j]; exact hu⟩
theorem results_cl {P : Program} {fn : Func} {p : Tmp} {ty : TypeId} (h : fn.results = #[.cell p ty]) (tmps : Array Value) (w : World) (g : Nat) (t : TypeId) (cs : List Value) (d : TypeDesc) (hp : tmps.getD p undef = .pointer (some ⟨g,0,none⟩)) (hg : Cl w g cs t)
  (hu : P.underlying ty = some d) (hd : (match d with | .struct _ | .array _ _ => true | _ => false) = true) (hi : (P.info? ty).map (·.size) = some cs.length) : (results fn tmps).run P w = .ok (.agg cs.toArray) w :=
 results_cell_row h tmps w g t cs.toArray (0,0) d hp hg hu hd (by simpa using hi)
end Go.Proofs.YtbljbdjmgogknaaGreatDoor
