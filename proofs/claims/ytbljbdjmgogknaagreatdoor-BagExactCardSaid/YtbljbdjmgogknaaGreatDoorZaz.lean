/-
  Wm7: texts of one proof, one behind the other.
  Conditions: none of its own.
-/
import Derived.Test.YtbljbdjmgogknaaGreatDoorZay
set_option linter.unusedVariables false
set_option linter.unusedSimpArgs false
set_option maxHeartbeats 25600000
set_option maxRecDepth 20000
namespace Go.Proofs.YtbljbdjmgogknaaGreatDoor
open Go.RowKit
theorem flatMap_get {α β : Type} (f : α → List β) (sz : Nat) (hf : ∀ x,(f x).length = sz) : ∀ (l : List α) (i : Nat) (x : α) (j : Nat) (u : β),l[i]? = some x → (f x)[j]? = some u → (l.flatMap f)[i * sz + j]? = some u
 | [],i,x,j,u,h,_ => by simp at h
 | y::r,0,x,j,u,h,hu => by
  simp only [List.getElem?_cons_zero,Option.some.injEq] at h
  subst h
  have hj : j < (f y).length := (List.getElem?_eq_some_iff.1 hu).1
  rw [List.flatMap_cons,Nat.zero_mul,Nat.zero_add,List.getElem?_append_left hj,hu]
 | y::r,i + 1,x,j,u,h,hu => by
  have h' : r[i]? = some x := by simpa using h
  have e : (i + 1) * sz + j = sz + (i * sz + j) := by rw [Nat.add_mul]; omega
  rw [List.flatMap_cons,e,List.getElem?_append_right (by rw [hf y]; omega),hf y,Nat.add_sub_cancel_left]
  exact flatMap_get f sz hf r i x j u h' hu
theorem rw_own {α : Type} {sz : Nat} {f : α → List Value} (hf : ∀ x,(f x).length = sz) (hp : 0 < sz) {w : World} {b : Nat} {e : TypeId} {v : Value} {l : List α} (h : w.ownsRow b e sz v l.length (l.flatMap f)) : Rw sz f w v l := by
 have hh := h
 rcases h.2 with ⟨rfl,h0⟩ | ⟨g,cap,cur,rfl,hB,hg,r⟩
 ·exact ⟨none,0,by rw [h0],fun i x hx => by have := (List.getElem?_eq_some_iff.1 hx).1; omega⟩
 ·refine ⟨_,cap,rfl,fun i x hx => ⟨g,0,rfl,(Array.getElem?_eq_some_iff.1 hg).1,fun j u hu => ?_⟩⟩
  have := hh.cells (g := g) rfl (i * sz + j) u (flatMap_get f sz hf l i x j u hx hu)
  rw [Addr.add_mid] at this
  rw [Nat.zero_add] at this ⊢
  exact this
def slotCells (l : List Wi.Slot) : List Value := l.flatMap slotC
theorem slotCells_app (l : List Wi.Slot) (x : Wi.Slot) : slotCells (l ++ [x]) = slotCells l ++ [.int .i64 x.1,.int .i64 x.2.1,.int .i64 x.2.2] := by simp [slotCells,slotC]
def tabCells (l : List (Wi.Seen × Value)) : List Value := l.flatMap fun y => [.int .i64 y.1.1,y.2]
theorem tabCells_app (l : List (Wi.Seen × Value)) (x : Wi.Seen × Value) : tabCells (l ++ [x]) = tabCells l ++ [.int .i64 x.1.1,x.2] := by simp [tabCells]
def TabO (w : World) (B : Nat) (v : Value) (t : List Wi.Seen) : Prop :=
 ∃ acc : List (Wi.Seen × Value),acc.map (·.1) = t ∧ w.ownsRow B 70 2 v acc.length (tabCells acc) ∧ ∀ y ∈ acc,w.ownsRow B 109 3 y.2 y.1.2.length (slotCells y.1.2)
theorem TabO.tbl {w : World} {B : Nat} {v : Value} {t : List Wi.Seen} (h : TabO w B v t) : Tbl w v t := by
 obtain ⟨acc,rfl,ho,hs⟩ := h
 have hh := ho
 rcases ho.2 with ⟨rfl,h0⟩ | ⟨g,cap,cur,rfl,hB,hg,r⟩
 ·exact ⟨none,0,by rw [List.length_map,h0],fun i x hx => by have := (List.getElem?_eq_some_iff.1 hx).1; rw [List.length_map] at this; omega⟩
 ·refine ⟨_,cap,by rw [List.length_map],fun i x hx => ?_⟩
  rw [List.getElem?_map] at hx
  obtain ⟨y,hy,rfl⟩ := Option.map_eq_some_iff.1 hx
  have hc : ∀ j u,([.int .i64 y.1.1,y.2] : List Value)[j]? = some u → w.cell? ⟨g,0 + i * 2 + j,none⟩ = some u := fun j u hu => by
   have := hh.cells (g := g) rfl (i * 2 + j) u (flatMap_get (fun y : Wi.Seen × Value => ([.int .i64 y.1.1,y.2] : List Value)) 2 (fun _ => rfl) acc i y j u hy hu)
   rw [Addr.add_mid] at this
   rw [Nat.add_assoc]
   exact this
  exact ⟨g,0,y.2,rfl,(Array.getElem?_eq_some_iff.1 hg).1,hc 0 _ rfl,hc 1 _ rfl,rw_own (f := slotC) (fun _ => rfl) (by decide) (hs y (List.mem_of_getElem? hy))⟩
theorem TabO.keepsS {S : Nat → Prop} {w w' : World} {B : Nat} {v : Value} {t : List Wi.Seen} (h : TabO w B v t) (k : Keeps S w w') (hS : ∀ j,B ≤ j → ¬ S j) : TabO w' B v t := by
 obtain ⟨acc,e,ho,hs⟩ := h
 exact ⟨acc,e,ownsRow_keepsS ho k (fun j hj => hS j (ho.lt j hj).1),fun y hy => ownsRow_keepsS (hs y hy) k (fun j hj => hS j ((hs y hy).lt j hj).1)⟩
theorem TabO.weaken {w : World} {B B' : Nat} {v : Value} {t : List Wi.Seen} (h : TabO w B v t) (hb : B' ≤ B) : TabO w B' v t := by
 obtain ⟨acc,e,ho,hs⟩ := h
 exact ⟨acc,e,ownsRow_weaken ho hb,fun y hy => ownsRow_weaken (hs y hy) hb⟩
theorem own_ne2 {w : World} {b b' : Nat} {e e' : TypeId} {size size' : Nat} {v v' : Value} {n n' : Nat} {xs xs' : List Value} (h : w.ownsRow b e size v n xs) (h' : w.ownsRow b' e' size' v' n' xs') (hne : e ≠ e') (j : Nat) (hj : v.ownBlock = some j) : v'.ownBlock ≠ some j := by
 rcases h.2 with ⟨rfl,_⟩ | ⟨g,cap,cur,rfl,_,hg,_⟩
 ·simp [Value.ownBlock] at hj
 ·simp only [Value.ownBlock,Option.some.injEq] at hj
  subst hj
  rcases h'.2 with ⟨rfl,_⟩ | ⟨g',cap',cur',rfl,_,hg',_⟩
  ·simp [Value.ownBlock]
  ·intro e2
   simp only [Value.ownBlock,Option.some.injEq] at e2
   subst e2
   rw [hg] at hg'
   injection hg' with hg'
   injection hg' with _ h2
   exact hne h2
theorem op_append {P : Program} (w : World) {o : Oper} {a : Act} {K : Act → World → Prop} {Q : Exit → Act → World → Prop} (s x : Operand) (t : TypeId) (hop : o.op = Op.call { callee := Callee.builtin Builtin.append,args := #[s,x],argTypes := #[t,t] })
  (v' : Value) (w' : World) (hrun : (Builtin.append_ #[t,t] o.type #[a.eval s,a.eval x]).run P w = .ok v' w') (hK : K (a.put o.dst v') w') : o.wp P a w K Q := by
 unfold Oper.wp
 simp [execOp,hop,resolve,invoke,builtin,hrun,Result.andThen]
 exact hK
theorem slotInfo : (Tryz.prog.info? 109).map (fun i => (i.zero,i.size,i.bytes)) = some (some (.agg #[.int .i64 0,.int .i64 0,.int .i64 0]),3,24) := by kernel_rfl
theorem seenInfo : (Tryz.prog.info? 70).map (fun i => (i.zero,i.size,i.bytes)) = some (some (.agg #[.int .i64 0,.slice none 0 0]),2,32) := by kernel_rfl
def LedR (w : World) (o : Option (List Wi.Seen)) (e : Ending) (w' : World) : Prop :=
 ∃ v,e = .returned (.tuple #[v,.int .i64 (if o.isSome then 0 else 3)]) ∧ TabO w' w.heap.size v (o.getD []) ∧ TabOk (o.getD []) ∧ Below w.heap.size w w'
theorem LedR.no {w w' : World} (h : Below w.heap.size w w') : LedR w none (.returned (.tuple #[.slice none 0 0,.int .i64 3])) w' :=
 ⟨_,rfl,⟨[],rfl,⟨rfl,.inl ⟨rfl,rfl⟩⟩,fun y hy => by cases hy⟩,⟨by unfold maxLen; exact Nat.zero_le _,fun x hx => by cases hx⟩,h⟩
theorem sSeen_ok (q : Bd.St) (hl : q.1.length < 4294967281) : Bd.inR (Wi.sSeen q).1.1 ∧ (Wi.sSeen q).1.2.length ≤ maxLen ∧ ∀ y ∈ (Wi.sSeen q).1.2,Bd.inR y.1 ∧ Bd.inR y.2.1 ∧ Bd.inR y.2.2 := by
 refine ⟨sInt_inR _,?_,?_⟩
 ·have h1 := sAll_cnt Wi.sSlot (Bd.sInt (Bd.sSign 108 q)).2
  have h2 := sInt_len (Bd.sSign 108 q)
  have h3 := sSign_len 108 q
  show (Wi.sAll Wi.sSlot (Bd.sInt (Bd.sSign 108 q)).2).1.length ≤ maxLen
  unfold maxLen
  omega
 ·exact Wi.sMany_all (P := fun y : Wi.Slot => Bd.inR y.1 ∧ Bd.inR y.2.1 ∧ Bd.inR y.2.2) (fun q => ⟨sInt_inR _,sInt_inR _,sInt_inR _⟩) _ _
def lenS (w : World) (g : Nat) : Nat := match w.cell? ⟨g,1,none⟩ with
 | some v => slLen v
 | none => 0
theorem lenS_of {W : World} {g n : Nat} {a : Value} {t : TypeId} {ao : Option Addr} {cap : Nat} (h : Cl W g [a,.slice ao n cap] t) : lenS W g = n := by
 have := h.cell 1
 unfold lenS
 rw [this]
 rfl
theorem ldec_any (s : List UInt8) (hs : s.length < 4294967281) (w : World) (hw : Lw w) :
  Calls Tryz.prog 98 #[.string ⟨s.toArray⟩] w (LedR w (Wi.decTable s)) := by
 have HW := hq' hw
 have HD : Hid (Wi.decTable s = if (decide (Bd.sDone (Bd.sSign 101 (Wi.sAll Wi.sSeen (Bd.sSign 108 (s,false))).2) = 0) && Wi.tableB (Wi.sAll Wi.sSeen (Bd.sSign 108 (s,false))).1) then some (Wi.sAll Wi.sSeen (Bd.sSign 108 (s,false))).1 else none) := rfl
 have hq : (Bd.sSign 108 (s,false)).1.length ≤ s.length := sSign_len 108 (s,false)
 have hcnt := sAll_cnt Wi.sSeen (Bd.sSign 108 (s,false))
 have HQ : Hid (∀ W,Rd W w.heap.size (s,false) → Calls Tryz.prog 58 #[.pointer (some ⟨w.heap.size,0,none⟩)] W fun e w' => e = .returned (.tuple #[]) ∧ Rds W w.heap.size (Bd.sSign 108 (s,false)) w') := fun W h => open_any _ _ _ h
 generalize Bd.sSign 108 (s,false) = q1 at *
 obtain ⟨i0,hi,hz0,hz1,hz2⟩ := info_parts seenInfo
 obtain ⟨i1,hi1,hy0,hy1,hy2⟩ := info_parts slotInfo
 clear hw
 go_enter Tryz.func98,Tryz.ntmps98
 go_wp2_with fail
 refine (new_any s _).mono ?_
 rintro e w1 ⟨rfl,hw1⟩
 have R1 : Hid (Rd w1 w.heap.size (s,false)) := by rw [hw1]; exact Rd.new s w
 have B1 : Hid (Below w.heap.size w w1) := by rw [hw1]; exact (Below.refl _ _).alloc (Nat.le_refl _) _
 clear hw1
 obtain ⟨p,hp⟩ : ∃ p,p = w.heap.size := ⟨_,rfl⟩
 rw [← hp] at R1 HQ ⊢
 have HP := hq' hp
 clear hp
 go_wp2_with fail
 refine (HQ.out _ R1.out).mono ?_
 rintro e w2 ⟨rfl,h2⟩
 have R2 := hq' h2.1
 have B2 : Hid (Below w.heap.size w w2) := B1.out.trans (h2.2.toBelow B1.out.size (fun j hj e => by have := HP.out; omega))
 clear h2 R1 B1 HQ
 go_wp2
 go_loopw [5] (fun v wr => ∃ (acc : List (Wi.Seen × Value)) (qq : Bd.St),wr.ownsRow (p + 1) 70 2 v acc.length (tabCells acc) ∧ (∀ y ∈ acc,wr.ownsRow (p + 1) 109 3 y.2 y.1.2.length (slotCells y.1.2)) ∧ Rd wr p qq ∧ Below w.heap.size w wr ∧ Wi.At Wi.sSeen q1 (acc.map (·.1)) qq ∧ qq.1.length ≤ q1.1.length ∧
  (∀ y ∈ acc,Bd.inR y.1.1 ∧ y.1.2.length ≤ maxLen ∧ ∀ z ∈ y.1.2,Bd.inR z.1 ∧ Bd.inR z.2.1 ∧ Bd.inR z.2.2)) (fun v _ => q1.1.length + 2 - slLen v)
 case atStart => exact ⟨[],q1,⟨rfl,.inl ⟨rfl,rfl⟩⟩,(by intro y hy; cases hy),R2.out,B2.out,Wi.At.start _ _,Nat.le_refl _,(by intro y hy; cases hy)⟩
 case round =>
  obtain ⟨acc,qq,ho,hsl,hr,hb,ha,hlq,hok⟩ := hrel
  have HO := hq' ho
  have HSL := hq' hsl
  have HR := hq' hr
  have HB := hq' hb
  have HA := hq' ha
  have HOK := hq' hok
  have hal := Nat.le_trans (ha.len Wi.sSeen_shr) hcnt
  rw [List.length_map] at hal
  have HM := hq' (more_any p qq wr hr)
  have hpl := hr.lt
  obtain ⟨av,cv,hve⟩ := own_form ho
  subst hve
  clear ho hsl hr hb ha hok R2 B2
  cases hm : Bd.sMore qq with
  | true =>
   have HN := hq' (HA.out.next Wi.sSeen_shr hm)
   have hal2 := Nat.le_trans (HN.out.len Wi.sSeen_shr) hcnt
   rw [List.length_append,List.length_map,List.length_singleton] at hal2
   have l1 := sSign_len 108 qq
   have l2 := sInt_len (Bd.sSign 108 qq)
   have HE : Hid (Wi.sSeen qq = (((Bd.sInt (Bd.sSign 108 qq)).1,(Wi.sAll Wi.sSlot (Bd.sInt (Bd.sSign 108 qq)).2).1),Bd.sSign 101 (Wi.sAll Wi.sSlot (Bd.sInt (Bd.sSign 108 qq)).2).2)) := rfl
   have l3 := Wi.sSeen_len qq
   have hsok := sSeen_ok qq (by omega)
   have hcn := sAll_cnt Wi.sSlot (Bd.sInt (Bd.sSign 108 qq)).2
   have HO1 := hq' (open_any p qq wr HR.out)
   have HI1 := hq' (fun W (hR : Rd W p (Bd.sSign 108 qq)) (hL : Lw W) => int_any p (Bd.sSign 108 qq) W hR (by omega) hL)
   have HX9 : Hid (∀ (l1 : List (Wi.Slot)) (l2 : Bd.St),Wi.sAll Wi.sSlot (Bd.sInt (Bd.sSign 108 qq)).2 = (l1,l2) → Wi.sSeen qq = (((Bd.sInt (Bd.sSign 108 qq)).1,l1),Bd.sSign 101 l2)) := fun l1 l2 h => by rw [HE.out,h]
   rw [hm] at HM
   clear hm HA HE
   have HSK := hq' hsok
   clear hsok
   generalize Wi.sSeen qq = sq at *
   generalize (Bd.sInt (Bd.sSign 108 qq)).1 = prod at *
   generalize (Bd.sInt (Bd.sSign 108 qq)).2 = qa at *
   generalize Bd.sSign 108 qq = q0 at *
   go_wp2_with fail
   refine HM.out.mono ?_
   rintro e w8 ⟨rfl,rfl⟩
   go_wp2_with fail
   refine HO1.out.mono ?_
   rintro e w3 ⟨rfl,h3⟩
   have O3 := hq' (ownsRow_keeps HO.out h3.2 (by omega))
   have S3 : Hid (∀ y ∈ acc,w3.ownsRow (p + 1) 109 3 y.2 y.1.2.length (slotCells y.1.2)) := fun y hy => ownsRow_keeps (HSL.out y hy) h3.2 (by omega)
   have B3 : Hid (Below w.heap.size w w3) := HB.out.trans (h3.2.toBelow HB.out.size (fun j hj e => by have := HP.out; omega))
   have R3 := hq' h3.1
   clear h3 HO HSL HR HB HO1 HM
   go_wp2_with fail
   refine (HI1.out _ R3.out (HW.out.below B3.out)).mono ?_
   rintro e w4 ⟨rfl,h4⟩
   have O4 := hq' (ownsRow_keeps O3.out h4.2 (by omega))
   have S4 : Hid (∀ y ∈ acc,w4.ownsRow (p + 1) 109 3 y.2 y.1.2.length (slotCells y.1.2)) := fun y hy => ownsRow_keeps (S3.out y hy) h4.2 (by omega)
   have B4 : Hid (Below w.heap.size w w4) := B3.out.trans (h4.2.toBelow B3.out.size (fun j hj e => by have := HP.out; omega))
   have R4 := hq' h4.1
   have hp4 := h4.1.lt
   clear h4 O3 S3 R3 B3 HI1
   have OB := hq' (World.ownsRow.alloc O4.out (.cells #[.int .i64 prod,.slice none 0 0] 70))
   have SB : Hid (∀ y ∈ acc,(w4.alloc (.cells #[.int .i64 prod,.slice none 0 0] 70)).ownsRow (p + 1) 109 3 y.2 y.1.2.length (slotCells y.1.2)) := fun y hy => World.ownsRow.alloc (S4.out y hy) _
   have BB := hq' (B4.out.alloc B4.out.size (.cells #[.int .i64 prod,.slice none 0 0] 70))
   have RB : Hid (Rd (w4.alloc (.cells #[.int .i64 prod,.slice none 0 0] 70)) p qa) := R4.out.keep (S := fun _ => False) (Keeps.alloc _ _ _) id
   have CB : Hid (Cl (w4.alloc (.cells #[.int .i64 prod,.slice none 0 0] 70)) w4.heap.size [.int .i64 prod,.slice none 0 0] 70) := Cl.new _ _ _
   have hOx : ∀ j,(Value.slice av acc.length cv).ownBlock = some j → j < w4.heap.size := fun j hj => (O4.out.lt j hj).2
   have hSx : ∀ y ∈ acc,∀ j,y.2.ownBlock = some j → j < w4.heap.size := fun y hy j hj => ((S4.out y hy).lt j hj).2
   have hsB := World.size_alloc w4 (.cells #[.int .i64 prod,.slice none 0 0] 70)
   have HOX := hq' hOx
   have HSX := hq' hSx
   clear hOx hSx
   go_upto_block 2 with (fail)
   clear O4 S4 R4 B4
   generalize w4.alloc (.cells #[.int .i64 prod,.slice none 0 0] 70) = wB at *
   generalize w4.heap.size = bx at *
   have hbp : bx ≠ p := by omega
   have hpB : p < wB.heap.size := by omega
   have hxB : bx < wB.heap.size := by omega
   have HLW : Hid (∀ W,Keeps (fun k => k = p ∨ k = bx ∨ wB.heap.size ≤ k) wB W → Lw W) := fun W k => HW.out.below (BB.out.trans (k.toBelow BB.out.size (fun j hj e => by have := HP.out; omega)))
   have hwB : p ≤ bx := by omega
   go_cut [] (fun wz => ∃ (sl : List Wi.Slot) (a : Option Addr) (c : Nat) (qz : Bd.St),Rd wz p qz ∧ Cl wz bx [.int .i64 prod,.slice a sl.length c] 70 ∧ wz.ownsRow wB.heap.size 109 3 (.slice a sl.length c) sl.length (slotCells sl) ∧ Keeps (fun k => k = p ∨ k = bx ∨ wB.heap.size ≤ k) wB wz ∧ Wi.sAll Wi.sSlot qa = (sl,qz))
   case first =>
    clear HN HX9 HSK
    go_wp2_with fail
    go_loopw [19] (fun _ wr => ∃ (sl : List Wi.Slot) (a : Option Addr) (c : Nat) (qi : Bd.St),Rd wr p qi ∧ Cl wr bx [.int .i64 prod,.slice a sl.length c] 70 ∧ wr.ownsRow wB.heap.size 109 3 (.slice a sl.length c) sl.length (slotCells sl) ∧ Keeps (fun k => k = p ∨ k = bx ∨ wB.heap.size ≤ k) wB wr ∧ Wi.At Wi.sSlot qa sl qi ∧ qi.1.length ≤ qa.1.length) (fun _ W => qa.1.length + 2 - lenS W bx)
    case atStart => exact ⟨[],none,0,qa,RB.out,CB.out,⟨rfl,.inl ⟨rfl,rfl⟩⟩,Keeps.refl _ _,Wi.At.start _ _,Nat.le_refl _⟩
    case round =>
     obtain ⟨sl,a,c,qi,hr,hcl,ho,hk,ha,hlq2⟩ := hrel
     have HRi := hq' hr
     have HCi := hq' hcl
     have HOi := hq' ho
     have HKi := hq' hk
     have HAi := hq' ha
     have HL0 := hq' (lenS_of hcl)
     have hali := Nat.le_trans (ha.len Wi.sSlot_shr) hcn
     have HMi := hq' (more_any p qi wr hr)
     clear hr hcl ho hk ha
     cases hm : Bd.sMore qi with
     | true =>
      have HNi := hq' (HAi.out.next Wi.sSlot_shr hm)
      have hali2 := Nat.le_trans (HNi.out.len Wi.sSlot_shr) hcn
      rw [List.length_append,List.length_singleton] at hali2
      have m1 := sSign_len 108 qi
      have m2 := sInt_len (Bd.sSign 108 qi)
      have m3 := sInt_len (Bd.sInt (Bd.sSign 108 qi)).2
      have m4 := sInt_len (Bd.sInt (Bd.sInt (Bd.sSign 108 qi)).2).2
      have m5 := sSign_len 101 (Bd.sInt (Bd.sInt (Bd.sInt (Bd.sSign 108 qi)).2).2).2
      have HEi : Hid (Wi.sSlot qi = (((Bd.sInt (Bd.sSign 108 qi)).1,(Bd.sInt (Bd.sInt (Bd.sSign 108 qi)).2).1,(Bd.sInt (Bd.sInt (Bd.sInt (Bd.sSign 108 qi)).2).2).1),Bd.sSign 101 (Bd.sInt (Bd.sInt (Bd.sInt (Bd.sSign 108 qi)).2).2).2)) := rfl
      have HO1 := hq' (open_any p qi wr HRi.out)
      have J1 := hq' (fun W (hR : Rd W p (Bd.sSign 108 qi)) (hL : Lw W) => int_any p (Bd.sSign 108 qi) W hR (by omega) hL)
      have J2 := hq' (fun W (hR : Rd W p (Bd.sInt (Bd.sSign 108 qi)).2) (hL : Lw W) => int_any p (Bd.sInt (Bd.sSign 108 qi)).2 W hR (by omega) hL)
      have J3 := hq' (fun W (hR : Rd W p (Bd.sInt (Bd.sInt (Bd.sSign 108 qi)).2).2) (hL : Lw W) => int_any p (Bd.sInt (Bd.sInt (Bd.sSign 108 qi)).2).2 W hR (by omega) hL)
      have JC := hq' (fun W (hR : Rd W p (Bd.sInt (Bd.sInt (Bd.sInt (Bd.sSign 108 qi)).2).2).2) => close_any p _ W hR)
      rw [HEi.out] at HNi
      rw [hm] at HMi
      clear hm HAi HEi
      generalize Bd.sSign 101 (Bd.sInt (Bd.sInt (Bd.sInt (Bd.sSign 108 qi)).2).2).2 = q6 at *
      generalize (Bd.sInt (Bd.sInt (Bd.sInt (Bd.sSign 108 qi)).2).2).1 = n2 at *
      generalize (Bd.sInt (Bd.sInt (Bd.sInt (Bd.sSign 108 qi)).2).2).2 = q5 at *
      generalize (Bd.sInt (Bd.sInt (Bd.sSign 108 qi)).2).1 = n1 at *
      generalize (Bd.sInt (Bd.sInt (Bd.sSign 108 qi)).2).2 = q4 at *
      generalize (Bd.sInt (Bd.sSign 108 qi)).1 = n0 at *
      generalize (Bd.sInt (Bd.sSign 108 qi)).2 = q3 at *
      generalize Bd.sSign 108 qi = q2 at *
      go_wp2_with fail
      refine HMi.out.mono ?_
      rintro e w8 ⟨rfl,rfl⟩
      go_wp2_with fail
      refine HO1.out.mono ?_
      rintro e w5 ⟨rfl,h5⟩
      have Q0 := hq' h5.1
      have D0 := hq' (HCi.out.keep h5.2 hbp)
      have P0 := hq' (ownsRow_keeps HOi.out h5.2 hpB)
      have L0 : Hid (Keeps (fun k => k = p ∨ k = bx ∨ wB.heap.size ≤ k) wB w5) := HKi.out.trans (h5.2.mono fun j _ e => .inl e)
      clear h5 HMi HO1 HRi HCi HOi HKi
      go_upto_region 9 with (fail)
      go_cut [] (fun wz => ∃ (a' : Option Addr) (c' : Nat),Rd wz p q5 ∧ Cl wz bx [.int .i64 prod,.slice a' (sl.length + 1) c'] 70 ∧ wz.ownsRow wB.heap.size 109 3 (.slice a' (sl.length + 1) c') (sl.length + 1) (slotCells (sl ++ [(n0,n1,n2)])) ∧ Keeps (fun k => k = p ∨ k = bx ∨ wB.heap.size ≤ k) wB wz)
      case first =>
       refine wp_region_any (by kernel_rfl) ?_
       change wpAny _ _ _ _ _ _ _ (World.drew _)
       have R0 : Hid (Rd w5.drew p q2) := Q0.out
       have C0 : Hid (Cl w5.drew bx [.int .i64 prod,.slice a sl.length c] 70) := D0.out
       have O0 : Hid (w5.drew.ownsRow wB.heap.size 109 3 (.slice a sl.length c) sl.length (slotCells sl)) := P0.out
       have K0 : Hid (Keeps (fun k => k = p ∨ k = bx ∨ wB.heap.size ≤ k) wB w5.drew) := L0.out.trans (Keeps.below _ (Below.refl _ _).drew)
       have s0 : w5.drew.cell? ⟨bx,1,none⟩ = some (.slice a sl.length c) := C0.out.cell 1
       clear Q0 D0 P0 L0
       generalize w5.drew = v0 at *
       refine wpAny_take (i := 0) (v := ?_) rfl (by kernel_rfl) (by kernel_rfl) (by kernel_rfl) (fun _ _ _ h => h) (Or.inl ⟨by rfl,?_⟩) ?_
       rotate_left
       ·intro w; go_simp <;> rfl
       refine wpAny_take (i := 2) (v := ?_) rfl (by kernel_rfl) (by kernel_rfl) (by kernel_rfl) (fun _ _ _ h => h) (Or.inl ⟨by rfl,?_⟩) ?_
       rotate_left
       ·intro w; go_simp <;> rfl
       refine wpAny_take (i := 4) (v := ?_) rfl (by kernel_rfl) (by kernel_rfl) (by kernel_rfl) (fun _ _ _ h => h) (Or.inl ⟨by rfl,?_⟩) ?_
       rotate_left
       ·intro w; go_simp <;> rfl
       refine wpAny_take (i := 6) (v := ?_) rfl (by kernel_rfl) (by kernel_rfl) (by kernel_rfl) (fun _ _ _ h => h) (Or.inl ⟨by rfl,?_⟩) ?_
       rotate_left
       ·intro w; go_simp <;> rfl
       refine wpAny_ready (rs := [1,3]) (by kernel_rfl) (by simp) ?_
       refine AllReady.cons rfl (fun K hK => ?_) ?_
       ·go_simp
        refine hK _ _ ?_
        clear hK K
        refine wpAny_ready (rs := [3]) (by kernel_rfl) (by simp) ?_
        refine AllReady.cons rfl (fun K hK => ?_) ?_
        ·go_simp
         refine (J1.out _ R0.out (HLW.out _ (K0.out))).mono ?_
         rintro e v1 ⟨rfl,g1⟩
         have R1 := hq' g1.1
         have C1 := hq' (C0.out.keep g1.2 hbp)
         have O1 := hq' (ownsRow_keeps O0.out g1.2 hpB)
         have K1 : Hid (Keeps (fun k => k = p ∨ k = bx ∨ wB.heap.size ≤ k) wB v1) := K0.out.trans (g1.2.mono fun j _ e => .inl e)
         have s1 : v1.cell? ⟨bx,1,none⟩ = some (.slice a sl.length c) := C1.out.cell 1
         clear g1
         refine hK _ _ ?_
         clear hK K
         refine wpAny_ready (rs := [5]) (by kernel_rfl) (by simp) ?_
         refine AllReady.cons rfl (fun K hK => ?_) ?_
         ·go_simp
          refine (J2.out _ R1.out (HLW.out _ (K1.out))).mono ?_
          rintro e v2 ⟨rfl,g2⟩
          have R2 := hq' g2.1
          have C2 := hq' (C1.out.keep g2.2 hbp)
          have O2 := hq' (ownsRow_keeps O1.out g2.2 hpB)
          have K2 : Hid (Keeps (fun k => k = p ∨ k = bx ∨ wB.heap.size ≤ k) wB v2) := K1.out.trans (g2.2.mono fun j _ e => .inl e)
          have s2 : v2.cell? ⟨bx,1,none⟩ = some (.slice a sl.length c) := C2.out.cell 1
          clear g2
          refine hK _ _ ?_
          clear hK K
          refine wpAny_ready (rs := [7]) (by kernel_rfl) (by simp) ?_
          refine AllReady.cons rfl (fun K hK => ?_) ?_
          ·go_simp
           refine (J3.out _ R2.out (HLW.out _ (K2.out))).mono ?_
           rintro e v3 ⟨rfl,g3⟩
           have R3 := hq' g3.1
           have C3 := hq' (C2.out.keep g3.2 hbp)
           have O3 := hq' (ownsRow_keeps O2.out g3.2 hpB)
           have K3 : Hid (Keeps (fun k => k = p ∨ k = bx ∨ wB.heap.size ≤ k) wB v3) := K2.out.trans (g3.2.mono fun j _ e => .inl e)
           have s3 : v3.cell? ⟨bx,1,none⟩ = some (.slice a sl.length c) := C3.out.cell 1
           clear g3
           have z3 := K3.out.size
           have c4 : (v3.alloc (.cells #[.int .i64 n0,.int .i64 n1,.int .i64 n2] 109)).cell? ⟨bx,1,none⟩ = some (.slice a sl.length c) := (C3.out.alloc _).cell 1
           obtain ⟨v',W5,happ,hown,hgr,_⟩ := run_append_own (P := Tryz.prog) (w := v3.alloc (.cells #[.int .i64 n0,.int .i64 n1,.int .i64 n2] 109)) wB.heap.size 68 68 109 i1 _ 3 24 Tryz.underlying68 hi1 hy0 hy1 hy2 rfl (by decide) (.slice a sl.length c) sl.length (slotCells sl) (World.ownsRow.alloc O3.out _)
            ⟨v3.heap.size,0,none⟩ 1 1 [.int .i64 n0,.int .i64 n1,.int .i64 n2] rfl (World.news_of_block (cs := #[.int .i64 n0,.int .i64 n1,.int .i64 n2]) (t := 109) (fr := (0,0)) (heap_alloc_new v3 _)) (by simp [Value.oneCell']) (by unfold maxLen; omega) (by omega) (by rw [World.size_alloc]; omega)
           obtain ⟨a',c',hv'⟩ := own_form hown
           subst hv'
           have KA : Keeps (fun j => wB.heap.size ≤ j) v3 W5 := (Keeps.alloc _ _ _).trans (Keeps.grown hgr (fun j hj => (O3.out.lt j hj).1))
           have C5 := C3.out.keep KA (by omega)
           have f5 := C5.free 1
           have b5 : W5.cell? ⟨bx,1,none⟩ = some (.slice a sl.length c) := C5.cell 1
           have R5 := R3.out.keep KA (by omega)
           have HFIN : Hid (Rd (W5.setCell ⟨bx,1,none⟩ (.slice a' (sl.length + 1) c')) p q5 ∧ Cl (W5.setCell ⟨bx,1,none⟩ (.slice a' (sl.length + 1) c')) bx [.int .i64 prod,.slice a' (sl.length + 1) c'] 70 ∧ (W5.setCell ⟨bx,1,none⟩ (.slice a' (sl.length + 1) c')).ownsRow wB.heap.size 109 3 (.slice a' (sl.length + 1) c') (sl.length + 1) (slotCells (sl ++ [(n0,n1,n2)])) ∧ Keeps (fun k => k = p ∨ k = bx ∨ wB.heap.size ≤ k) wB (W5.setCell ⟨bx,1,none⟩ (.slice a' (sl.length + 1) c'))) := by
            have k1 : Keeps (fun k => k = bx) W5 (W5.setCell ⟨bx,1,none⟩ (.slice a' (sl.length + 1) c')) := Keeps.setCell _ _ _ _ rfl
            refine ⟨R5.keep k1 (fun e => hbp e.symm),C5.set 1 _,?_,(K3.out.trans (KA.mono fun j _ e => .inr (.inr e))).trans (k1.mono fun j _ e => .inr (.inl e))⟩
            rw [slotCells_app]
            exact ownsRow_keeps (j := bx) hown k1 (by omega)
           refine hK _ _ ?_
           clear hK K
           refine wpAny_take (i := 8) (v := ?_) rfl (by kernel_rfl) (by kernel_rfl) (by kernel_rfl) (fun _ _ _ h => h) (Or.inl ⟨by rfl,?_⟩) ?_
           rotate_left
           ·intro w; go_simp <;> rfl
           refine wpAny_ready (rs := [9]) (by kernel_rfl) (by simp) ?_
           refine AllReady.cons rfl (fun K hK => ?_) ?_
           ·go_simp
            refine hK _ _ ?_
            clear hK K
            refine wpAny_ready (rs := [10]) (by kernel_rfl) (by simp) ?_
            refine AllReady.cons rfl (fun K hK => ?_) ?_
            ·rw [if_pos (by rfl)]
             refine op_append _ _ _ _ rfl _ _ happ (hK _ _ ?_)
             clear hK K
             refine wpAny_take (i := 11) (v := ?_) rfl (by kernel_rfl) (by kernel_rfl) (by kernel_rfl) (fun _ _ _ h => h) (Or.inl ⟨by rfl,?_⟩) ?_
             rotate_left
             ·intro w; go_simp <;> rfl
             refine wpAny_ready (rs := [12]) (by kernel_rfl) (by simp) ?_
             refine AllReady.cons rfl (fun K hK => ?_) ?_
             ·go_simp
              refine hK _ _ ?_
              clear hK K
              refine wpAny_done (by kernel_rfl) ?_ _
              go_wp2_with fail
              go_meet
              case rel => exact ⟨_,_,HFIN.out⟩
             exact AllReady.nil
            exact AllReady.nil
           exact AllReady.nil
          exact AllReady.nil
         exact AllReady.nil
        exact AllReady.nil
       refine AllReady.cons rfl (fun K hK => ?_) ?_
       ·go_simp
        refine (J1.out _ R0.out (HLW.out _ (K0.out))).mono ?_
        rintro e v1 ⟨rfl,g1⟩
        have R1 := hq' g1.1
        have C1 := hq' (C0.out.keep g1.2 hbp)
        have O1 := hq' (ownsRow_keeps O0.out g1.2 hpB)
        have K1 : Hid (Keeps (fun k => k = p ∨ k = bx ∨ wB.heap.size ≤ k) wB v1) := K0.out.trans (g1.2.mono fun j _ e => .inl e)
        have s1 : v1.cell? ⟨bx,1,none⟩ = some (.slice a sl.length c) := C1.out.cell 1
        clear g1
        refine hK _ _ ?_
        clear hK K
        refine wpAny_ready (rs := [1,5]) (by kernel_rfl) (by simp) ?_
        refine AllReady.cons rfl (fun K hK => ?_) ?_
        ·go_simp
         refine hK _ _ ?_
         clear hK K
         refine wpAny_ready (rs := [5]) (by kernel_rfl) (by simp) ?_
         refine AllReady.cons rfl (fun K hK => ?_) ?_
         ·go_simp
          refine (J2.out _ R1.out (HLW.out _ (K1.out))).mono ?_
          rintro e v2 ⟨rfl,g2⟩
          have R2 := hq' g2.1
          have C2 := hq' (C1.out.keep g2.2 hbp)
          have O2 := hq' (ownsRow_keeps O1.out g2.2 hpB)
          have K2 : Hid (Keeps (fun k => k = p ∨ k = bx ∨ wB.heap.size ≤ k) wB v2) := K1.out.trans (g2.2.mono fun j _ e => .inl e)
          have s2 : v2.cell? ⟨bx,1,none⟩ = some (.slice a sl.length c) := C2.out.cell 1
          clear g2
          refine hK _ _ ?_
          clear hK K
          refine wpAny_ready (rs := [7]) (by kernel_rfl) (by simp) ?_
          refine AllReady.cons rfl (fun K hK => ?_) ?_
          ·go_simp
           refine (J3.out _ R2.out (HLW.out _ (K2.out))).mono ?_
           rintro e v3 ⟨rfl,g3⟩
           have R3 := hq' g3.1
           have C3 := hq' (C2.out.keep g3.2 hbp)
           have O3 := hq' (ownsRow_keeps O2.out g3.2 hpB)
           have K3 : Hid (Keeps (fun k => k = p ∨ k = bx ∨ wB.heap.size ≤ k) wB v3) := K2.out.trans (g3.2.mono fun j _ e => .inl e)
           have s3 : v3.cell? ⟨bx,1,none⟩ = some (.slice a sl.length c) := C3.out.cell 1
           clear g3
           have z3 := K3.out.size
           have c4 : (v3.alloc (.cells #[.int .i64 n0,.int .i64 n1,.int .i64 n2] 109)).cell? ⟨bx,1,none⟩ = some (.slice a sl.length c) := (C3.out.alloc _).cell 1
           obtain ⟨v',W5,happ,hown,hgr,_⟩ := run_append_own (P := Tryz.prog) (w := v3.alloc (.cells #[.int .i64 n0,.int .i64 n1,.int .i64 n2] 109)) wB.heap.size 68 68 109 i1 _ 3 24 Tryz.underlying68 hi1 hy0 hy1 hy2 rfl (by decide) (.slice a sl.length c) sl.length (slotCells sl) (World.ownsRow.alloc O3.out _)
            ⟨v3.heap.size,0,none⟩ 1 1 [.int .i64 n0,.int .i64 n1,.int .i64 n2] rfl (World.news_of_block (cs := #[.int .i64 n0,.int .i64 n1,.int .i64 n2]) (t := 109) (fr := (0,0)) (heap_alloc_new v3 _)) (by simp [Value.oneCell']) (by unfold maxLen; omega) (by omega) (by rw [World.size_alloc]; omega)
           obtain ⟨a',c',hv'⟩ := own_form hown
           subst hv'
           have KA : Keeps (fun j => wB.heap.size ≤ j) v3 W5 := (Keeps.alloc _ _ _).trans (Keeps.grown hgr (fun j hj => (O3.out.lt j hj).1))
           have C5 := C3.out.keep KA (by omega)
           have f5 := C5.free 1
           have b5 : W5.cell? ⟨bx,1,none⟩ = some (.slice a sl.length c) := C5.cell 1
           have R5 := R3.out.keep KA (by omega)
           have HFIN : Hid (Rd (W5.setCell ⟨bx,1,none⟩ (.slice a' (sl.length + 1) c')) p q5 ∧ Cl (W5.setCell ⟨bx,1,none⟩ (.slice a' (sl.length + 1) c')) bx [.int .i64 prod,.slice a' (sl.length + 1) c'] 70 ∧ (W5.setCell ⟨bx,1,none⟩ (.slice a' (sl.length + 1) c')).ownsRow wB.heap.size 109 3 (.slice a' (sl.length + 1) c') (sl.length + 1) (slotCells (sl ++ [(n0,n1,n2)])) ∧ Keeps (fun k => k = p ∨ k = bx ∨ wB.heap.size ≤ k) wB (W5.setCell ⟨bx,1,none⟩ (.slice a' (sl.length + 1) c'))) := by
            have k1 : Keeps (fun k => k = bx) W5 (W5.setCell ⟨bx,1,none⟩ (.slice a' (sl.length + 1) c')) := Keeps.setCell _ _ _ _ rfl
            refine ⟨R5.keep k1 (fun e => hbp e.symm),C5.set 1 _,?_,(K3.out.trans (KA.mono fun j _ e => .inr (.inr e))).trans (k1.mono fun j _ e => .inr (.inl e))⟩
            rw [slotCells_app]
            exact ownsRow_keeps (j := bx) hown k1 (by omega)
           refine hK _ _ ?_
           clear hK K
           refine wpAny_take (i := 8) (v := ?_) rfl (by kernel_rfl) (by kernel_rfl) (by kernel_rfl) (fun _ _ _ h => h) (Or.inl ⟨by rfl,?_⟩) ?_
           rotate_left
           ·intro w; go_simp <;> rfl
           refine wpAny_ready (rs := [9]) (by kernel_rfl) (by simp) ?_
           refine AllReady.cons rfl (fun K hK => ?_) ?_
           ·go_simp
            refine hK _ _ ?_
            clear hK K
            refine wpAny_ready (rs := [10]) (by kernel_rfl) (by simp) ?_
            refine AllReady.cons rfl (fun K hK => ?_) ?_
            ·rw [if_pos (by rfl)]
             refine op_append _ _ _ _ rfl _ _ happ (hK _ _ ?_)
             clear hK K
             refine wpAny_take (i := 11) (v := ?_) rfl (by kernel_rfl) (by kernel_rfl) (by kernel_rfl) (fun _ _ _ h => h) (Or.inl ⟨by rfl,?_⟩) ?_
             rotate_left
             ·intro w; go_simp <;> rfl
             refine wpAny_ready (rs := [12]) (by kernel_rfl) (by simp) ?_
             refine AllReady.cons rfl (fun K hK => ?_) ?_
             ·go_simp
              refine hK _ _ ?_
              clear hK K
              refine wpAny_done (by kernel_rfl) ?_ _
              go_wp2_with fail
              go_meet
              case rel => exact ⟨_,_,HFIN.out⟩
             exact AllReady.nil
            exact AllReady.nil
           exact AllReady.nil
          exact AllReady.nil
         exact AllReady.nil
        refine AllReady.cons rfl (fun K hK => ?_) ?_
        ·go_simp
         refine (J2.out _ R1.out (HLW.out _ (K1.out))).mono ?_
         rintro e v2 ⟨rfl,g2⟩
         have R2 := hq' g2.1
         have C2 := hq' (C1.out.keep g2.2 hbp)
         have O2 := hq' (ownsRow_keeps O1.out g2.2 hpB)
         have K2 : Hid (Keeps (fun k => k = p ∨ k = bx ∨ wB.heap.size ≤ k) wB v2) := K1.out.trans (g2.2.mono fun j _ e => .inl e)
         have s2 : v2.cell? ⟨bx,1,none⟩ = some (.slice a sl.length c) := C2.out.cell 1
         clear g2
         refine hK _ _ ?_
         clear hK K
         refine wpAny_ready (rs := [1,7]) (by kernel_rfl) (by simp) ?_
         refine AllReady.cons rfl (fun K hK => ?_) ?_
         ·go_simp
          refine hK _ _ ?_
          clear hK K
          refine wpAny_ready (rs := [7]) (by kernel_rfl) (by simp) ?_
          refine AllReady.cons rfl (fun K hK => ?_) ?_
          ·go_simp
           refine (J3.out _ R2.out (HLW.out _ (K2.out))).mono ?_
           rintro e v3 ⟨rfl,g3⟩
           have R3 := hq' g3.1
           have C3 := hq' (C2.out.keep g3.2 hbp)
           have O3 := hq' (ownsRow_keeps O2.out g3.2 hpB)
           have K3 : Hid (Keeps (fun k => k = p ∨ k = bx ∨ wB.heap.size ≤ k) wB v3) := K2.out.trans (g3.2.mono fun j _ e => .inl e)
           have s3 : v3.cell? ⟨bx,1,none⟩ = some (.slice a sl.length c) := C3.out.cell 1
           clear g3
           have z3 := K3.out.size
           have c4 : (v3.alloc (.cells #[.int .i64 n0,.int .i64 n1,.int .i64 n2] 109)).cell? ⟨bx,1,none⟩ = some (.slice a sl.length c) := (C3.out.alloc _).cell 1
           obtain ⟨v',W5,happ,hown,hgr,_⟩ := run_append_own (P := Tryz.prog) (w := v3.alloc (.cells #[.int .i64 n0,.int .i64 n1,.int .i64 n2] 109)) wB.heap.size 68 68 109 i1 _ 3 24 Tryz.underlying68 hi1 hy0 hy1 hy2 rfl (by decide) (.slice a sl.length c) sl.length (slotCells sl) (World.ownsRow.alloc O3.out _)
            ⟨v3.heap.size,0,none⟩ 1 1 [.int .i64 n0,.int .i64 n1,.int .i64 n2] rfl (World.news_of_block (cs := #[.int .i64 n0,.int .i64 n1,.int .i64 n2]) (t := 109) (fr := (0,0)) (heap_alloc_new v3 _)) (by simp [Value.oneCell']) (by unfold maxLen; omega) (by omega) (by rw [World.size_alloc]; omega)
           obtain ⟨a',c',hv'⟩ := own_form hown
           subst hv'
           have KA : Keeps (fun j => wB.heap.size ≤ j) v3 W5 := (Keeps.alloc _ _ _).trans (Keeps.grown hgr (fun j hj => (O3.out.lt j hj).1))
           have C5 := C3.out.keep KA (by omega)
           have f5 := C5.free 1
           have b5 : W5.cell? ⟨bx,1,none⟩ = some (.slice a sl.length c) := C5.cell 1
           have R5 := R3.out.keep KA (by omega)
           have HFIN : Hid (Rd (W5.setCell ⟨bx,1,none⟩ (.slice a' (sl.length + 1) c')) p q5 ∧ Cl (W5.setCell ⟨bx,1,none⟩ (.slice a' (sl.length + 1) c')) bx [.int .i64 prod,.slice a' (sl.length + 1) c'] 70 ∧ (W5.setCell ⟨bx,1,none⟩ (.slice a' (sl.length + 1) c')).ownsRow wB.heap.size 109 3 (.slice a' (sl.length + 1) c') (sl.length + 1) (slotCells (sl ++ [(n0,n1,n2)])) ∧ Keeps (fun k => k = p ∨ k = bx ∨ wB.heap.size ≤ k) wB (W5.setCell ⟨bx,1,none⟩ (.slice a' (sl.length + 1) c'))) := by
            have k1 : Keeps (fun k => k = bx) W5 (W5.setCell ⟨bx,1,none⟩ (.slice a' (sl.length + 1) c')) := Keeps.setCell _ _ _ _ rfl
            refine ⟨R5.keep k1 (fun e => hbp e.symm),C5.set 1 _,?_,(K3.out.trans (KA.mono fun j _ e => .inr (.inr e))).trans (k1.mono fun j _ e => .inr (.inl e))⟩
            rw [slotCells_app]
            exact ownsRow_keeps (j := bx) hown k1 (by omega)
           refine hK _ _ ?_
           clear hK K
           refine wpAny_take (i := 8) (v := ?_) rfl (by kernel_rfl) (by kernel_rfl) (by kernel_rfl) (fun _ _ _ h => h) (Or.inl ⟨by rfl,?_⟩) ?_
           rotate_left
           ·intro w; go_simp <;> rfl
           refine wpAny_ready (rs := [9]) (by kernel_rfl) (by simp) ?_
           refine AllReady.cons rfl (fun K hK => ?_) ?_
           ·go_simp
            refine hK _ _ ?_
            clear hK K
            refine wpAny_ready (rs := [10]) (by kernel_rfl) (by simp) ?_
            refine AllReady.cons rfl (fun K hK => ?_) ?_
            ·rw [if_pos (by rfl)]
             refine op_append _ _ _ _ rfl _ _ happ (hK _ _ ?_)
             clear hK K
             refine wpAny_take (i := 11) (v := ?_) rfl (by kernel_rfl) (by kernel_rfl) (by kernel_rfl) (fun _ _ _ h => h) (Or.inl ⟨by rfl,?_⟩) ?_
             rotate_left
             ·intro w; go_simp <;> rfl
             refine wpAny_ready (rs := [12]) (by kernel_rfl) (by simp) ?_
             refine AllReady.cons rfl (fun K hK => ?_) ?_
             ·go_simp
              refine hK _ _ ?_
              clear hK K
              refine wpAny_done (by kernel_rfl) ?_ _
              go_wp2_with fail
              go_meet
              case rel => exact ⟨_,_,HFIN.out⟩
             exact AllReady.nil
            exact AllReady.nil
           exact AllReady.nil
          exact AllReady.nil
         refine AllReady.cons rfl (fun K hK => ?_) ?_
         ·go_simp
          refine (J3.out _ R2.out (HLW.out _ (K2.out))).mono ?_
          rintro e v3 ⟨rfl,g3⟩
          have R3 := hq' g3.1
          have C3 := hq' (C2.out.keep g3.2 hbp)
          have O3 := hq' (ownsRow_keeps O2.out g3.2 hpB)
          have K3 : Hid (Keeps (fun k => k = p ∨ k = bx ∨ wB.heap.size ≤ k) wB v3) := K2.out.trans (g3.2.mono fun j _ e => .inl e)
          have s3 : v3.cell? ⟨bx,1,none⟩ = some (.slice a sl.length c) := C3.out.cell 1
          clear g3
          have z3 := K3.out.size
          have c4 : (v3.alloc (.cells #[.int .i64 n0,.int .i64 n1,.int .i64 n2] 109)).cell? ⟨bx,1,none⟩ = some (.slice a sl.length c) := (C3.out.alloc _).cell 1
          obtain ⟨v',W5,happ,hown,hgr,_⟩ := run_append_own (P := Tryz.prog) (w := v3.alloc (.cells #[.int .i64 n0,.int .i64 n1,.int .i64 n2] 109)) wB.heap.size 68 68 109 i1 _ 3 24 Tryz.underlying68 hi1 hy0 hy1 hy2 rfl (by decide) (.slice a sl.length c) sl.length (slotCells sl) (World.ownsRow.alloc O3.out _)
           ⟨v3.heap.size,0,none⟩ 1 1 [.int .i64 n0,.int .i64 n1,.int .i64 n2] rfl (World.news_of_block (cs := #[.int .i64 n0,.int .i64 n1,.int .i64 n2]) (t := 109) (fr := (0,0)) (heap_alloc_new v3 _)) (by simp [Value.oneCell']) (by unfold maxLen; omega) (by omega) (by rw [World.size_alloc]; omega)
          obtain ⟨a',c',hv'⟩ := own_form hown
          subst hv'
          have KA : Keeps (fun j => wB.heap.size ≤ j) v3 W5 := (Keeps.alloc _ _ _).trans (Keeps.grown hgr (fun j hj => (O3.out.lt j hj).1))
          have C5 := C3.out.keep KA (by omega)
          have f5 := C5.free 1
          have b5 : W5.cell? ⟨bx,1,none⟩ = some (.slice a sl.length c) := C5.cell 1
          have R5 := R3.out.keep KA (by omega)
          have HFIN : Hid (Rd (W5.setCell ⟨bx,1,none⟩ (.slice a' (sl.length + 1) c')) p q5 ∧ Cl (W5.setCell ⟨bx,1,none⟩ (.slice a' (sl.length + 1) c')) bx [.int .i64 prod,.slice a' (sl.length + 1) c'] 70 ∧ (W5.setCell ⟨bx,1,none⟩ (.slice a' (sl.length + 1) c')).ownsRow wB.heap.size 109 3 (.slice a' (sl.length + 1) c') (sl.length + 1) (slotCells (sl ++ [(n0,n1,n2)])) ∧ Keeps (fun k => k = p ∨ k = bx ∨ wB.heap.size ≤ k) wB (W5.setCell ⟨bx,1,none⟩ (.slice a' (sl.length + 1) c'))) := by
           have k1 : Keeps (fun k => k = bx) W5 (W5.setCell ⟨bx,1,none⟩ (.slice a' (sl.length + 1) c')) := Keeps.setCell _ _ _ _ rfl
           refine ⟨R5.keep k1 (fun e => hbp e.symm),C5.set 1 _,?_,(K3.out.trans (KA.mono fun j _ e => .inr (.inr e))).trans (k1.mono fun j _ e => .inr (.inl e))⟩
           rw [slotCells_app]
           exact ownsRow_keeps (j := bx) hown k1 (by omega)
          refine hK _ _ ?_
          clear hK K
          refine wpAny_take (i := 8) (v := ?_) rfl (by kernel_rfl) (by kernel_rfl) (by kernel_rfl) (fun _ _ _ h => h) (Or.inl ⟨by rfl,?_⟩) ?_
          rotate_left
          ·intro w; go_simp <;> rfl
          refine wpAny_ready (rs := [1,9]) (by kernel_rfl) (by simp) ?_
          refine AllReady.cons rfl (fun K hK => ?_) ?_
          ·go_simp
           refine hK _ _ ?_
           clear hK K
           refine wpAny_ready (rs := [9]) (by kernel_rfl) (by simp) ?_
           refine AllReady.cons rfl (fun K hK => ?_) ?_
           ·go_simp
            refine hK _ _ ?_
            clear hK K
            refine wpAny_ready (rs := [10]) (by kernel_rfl) (by simp) ?_
            refine AllReady.cons rfl (fun K hK => ?_) ?_
            ·rw [if_pos (by rfl)]
             refine op_append _ _ _ _ rfl _ _ happ (hK _ _ ?_)
             clear hK K
             refine wpAny_take (i := 11) (v := ?_) rfl (by kernel_rfl) (by kernel_rfl) (by kernel_rfl) (fun _ _ _ h => h) (Or.inl ⟨by rfl,?_⟩) ?_
             rotate_left
             ·intro w; go_simp <;> rfl
             refine wpAny_ready (rs := [12]) (by kernel_rfl) (by simp) ?_
             refine AllReady.cons rfl (fun K hK => ?_) ?_
             ·go_simp
              refine hK _ _ ?_
              clear hK K
              refine wpAny_done (by kernel_rfl) ?_ _
              go_wp2_with fail
              go_meet
              case rel => exact ⟨_,_,HFIN.out⟩
             exact AllReady.nil
            exact AllReady.nil
           exact AllReady.nil
          refine AllReady.cons rfl (fun K hK => ?_) ?_
          ·go_simp
           refine hK _ _ ?_
           clear hK K
           refine wpAny_ready (rs := [1]) (by kernel_rfl) (by simp) ?_
           refine AllReady.cons rfl (fun K hK => ?_) ?_
           ·go_simp
            refine hK _ _ ?_
            clear hK K
            refine wpAny_ready (rs := [10]) (by kernel_rfl) (by simp) ?_
            refine AllReady.cons rfl (fun K hK => ?_) ?_
            ·rw [if_pos (by rfl)]
             refine op_append _ _ _ _ rfl _ _ happ (hK _ _ ?_)
             clear hK K
             refine wpAny_take (i := 11) (v := ?_) rfl (by kernel_rfl) (by kernel_rfl) (by kernel_rfl) (fun _ _ _ h => h) (Or.inl ⟨by rfl,?_⟩) ?_
             rotate_left
             ·intro w; go_simp <;> rfl
             refine wpAny_ready (rs := [12]) (by kernel_rfl) (by simp) ?_
             refine AllReady.cons rfl (fun K hK => ?_) ?_
             ·go_simp
              refine hK _ _ ?_
              clear hK K
              refine wpAny_done (by kernel_rfl) ?_ _
              go_wp2_with fail
              go_meet
              case rel => exact ⟨_,_,HFIN.out⟩
             exact AllReady.nil
            exact AllReady.nil
           exact AllReady.nil
          exact AllReady.nil
         exact AllReady.nil
        exact AllReady.nil
       exact AllReady.nil
      case rest =>
       obtain ⟨a',c',hr,hcl,ho,hk⟩ := hcut
       have HR9 := hq' hr
       have HC9 := hq' hcl
       have HO9 := hq' ho
       have HK9 := hq' hk
       clear hr hcl ho hk
       go_wp2_with fail
       refine (JC.out _ HR9.out).mono ?_
       rintro e w6 ⟨rfl,h6⟩
       have R6 := hq' h6.1
       have C6 := hq' (HC9.out.keep h6.2 hbp)
       have O6 := hq' (ownsRow_keeps HO9.out h6.2 hpB)
       have K6 : Hid (Keeps (fun k => k = p ∨ k = bx ∨ wB.heap.size ≤ k) wB w6) := HK9.out.trans (h6.2.mono fun j _ e => .inl e)
       have HL1 := hq' (lenS_of C6.out)
       clear h6
       go_wp2
       go_roundw
       case rel => exact ⟨sl ++ [(n0,n1,n2)],a',c',q6,R6.out,by rw [List.length_append]; exact C6.out,by rw [List.length_append]; exact O6.out,K6.out,HNi.out,by omega⟩
       case measure => rw [HL1.out,HL0.out]; omega
     | false =>
      have HST := HAi.out.stop hm
      rw [hm] at HMi
      clear hm HAi
      go_wp2_with fail
      refine HMi.out.mono ?_
      rintro e w8 ⟨rfl,rfl⟩
      go_wp2
      go_meet
      case rel => exact ⟨sl,a,c,qi,HRi.out,HCi.out,HOi.out,HKi.out,HST⟩
   case rest =>
    obtain ⟨sl,a,c,qz,hr,hcl,ho,hk,he⟩ := hcut
    have HXX := HX9.out sl qz he
    rw [HXX] at HN HSK l3
    have HNN := hq' HN.out
    have HR5 := hq' hr
    have hcap := HOX.out
    have O5 := hq' (ownsRow_keepsS OB.out hk (fun j hj e => by have h1 := (OB.out.lt j hj).1; have h2 := hcap j hj; rcases e with e | e | e <;> omega))
    have S5 : Hid (∀ y ∈ acc,wc.ownsRow (p + 1) 109 3 y.2 y.1.2.length (slotCells y.1.2)) := fun y hy => ownsRow_keepsS (SB.out y hy) hk (fun j hj e => by have h1 := ((SB.out y hy).lt j hj).1; have h2 := HSX.out y hy j hj; rcases e with e | e | e <;> omega)
    have B5 : Hid (Below w.heap.size w wc) := BB.out.trans (hk.toBelow BB.out.size (fun j hj e => by have := HP.out; omega))
    have X5 := hq' hcl
    have N5 := hq' (ownsRow_weaken ho (by omega : p + 1 ≤ wB.heap.size))
    have hls : sl.length ≤ maxLen := HSK.out.2.1
    clear hr hcl ho hk he HN HX9 OB SB BB RB CB HXX hcap
    go_wp2_with fail
    refine (close_any p qz wc HR5.out).mono ?_
    rintro e w6 ⟨rfl,h6⟩
    have O6 := hq' (ownsRow_keeps O5.out h6.2 (by omega))
    have S6 : Hid (∀ y ∈ acc,w6.ownsRow (p + 1) 109 3 y.2 y.1.2.length (slotCells y.1.2)) := fun y hy => ownsRow_keeps (S5.out y hy) h6.2 (by omega)
    have N6 := hq' (ownsRow_keeps N5.out h6.2 (by omega))
    have B6 : Hid (Below w.heap.size w w6) := B5.out.trans (h6.2.toBelow B5.out.size (fun j hj e => by have := HP.out; omega))
    have X6 := hq' (X5.out.keep h6.2 hbp)
    have R6 := hq' h6.1
    have hp6 := h6.1.lt
    clear h6 O5 S5 N5 B5 X5 HR5
    have c0 := X6.out.cell 0
    have c1 := X6.out.cell 1
    simp only [g0',gs'] at c0 c1
    go_wp2_with (at_builtin; refine wpList_append_own _ rfl _ _ 37 rfl (p + 1) 70 i0 _ 2 32 Tryz.underlying37 hi hz0 hz1 hz2 rfl (by decide) _ _ _ rfl (World.ownsRow.alloc O6.out _) ⟨w6.heap.size,0,none⟩ 1 1 [.int .i64 prod,.slice a sl.length c] rfl rfl (World.news_of_block (cs := #[.int .i64 prod,.slice a sl.length c]) (t := 70) (fr := (0,0)) (heap_alloc_new w6 _)) (by simp [Value.oneCell']) ?_ ?_ ?_ ?_)
    ·unfold maxLen; omega
    ·omega
    ·simp; omega
    intro v' wE hownB hgB _
    have KB : Hid (Keeps (fun j => (Value.slice av acc.length cv).ownBlock = some j) w6 wE) := (Keeps.alloc _ _ _).trans (Keeps.grown hgB (fun j hj => hj))
    have OE : Hid (wE.ownsRow (p + 1) 70 2 v' (acc ++ [((prod,sl),Value.slice a sl.length c)]).length (tabCells (acc ++ [((prod,sl),Value.slice a sl.length c)]))) := by
     rw [Hid,tabCells_app,List.length_append]
     exact hownB
    have SE : Hid (∀ y ∈ acc ++ [((prod,sl),Value.slice a sl.length c)],wE.ownsRow (p + 1) 109 3 y.2 y.1.2.length (slotCells y.1.2)) := fun y hy => by
     have h0 : w6.ownsRow (p + 1) 109 3 y.2 y.1.2.length (slotCells y.1.2) := by
      rcases List.mem_append.1 hy with hy | hy
      ·exact S6.out y hy
      ·rw [List.mem_singleton.1 hy]; exact N6.out
     exact ownsRow_keepsS h0 KB.out (fun j hj e => own_ne2 h0 O6.out (by decide) j hj e)
    have hEl : ∀ j,(Value.slice av acc.length cv).ownBlock = some j → p + 1 ≤ j := fun j hj => (O6.out.lt j hj).1
    have RE := hq' (R6.out.keep KB.out (fun e => by have := hEl p e; omega))
    have BE : Hid (Below w.heap.size w wE) := B6.out.trans (KB.out.toBelow B6.out.size (fun j hj e => by have := hEl j e; have := HP.out; omega))
    have OKE : Hid (∀ y ∈ acc ++ [((prod,sl),Value.slice a sl.length c)],Bd.inR y.1.1 ∧ y.1.2.length ≤ maxLen ∧ ∀ z ∈ y.1.2,Bd.inR z.1 ∧ Bd.inR z.2.1 ∧ Bd.inR z.2.2) := fun y hy => by
     rcases List.mem_append.1 hy with hy | hy
     ·exact HOK.out y hy
     ·rw [List.mem_singleton.1 hy]; exact HSK.out
    obtain ⟨av',cv',hve'⟩ := own_form hownB
    subst hve'
    clear hownB hgB KB O6 S6 N6 R6 B6 X6 c0 c1
    go_wp2
    go_roundw
    case rel => exact ⟨acc ++ [((prod,sl),Value.slice a sl.length c)],Bd.sSign 101 qz,OE.out,SE.out,RE.out,BE.out,by rw [List.map_append,List.map_singleton]; exact HNN.out,by omega,OKE.out⟩
    case measure => simp only [slLen]; omega
  | false =>
   have HE := HA.out.stop hm
   have HEE := hq' HE
   rw [HEE.out] at HD
   rw [hm] at HM
   have HC := hq' (close_any p qq wr HR.out)
   clear hm HA HE HEE
   generalize Bd.sSign 101 qq = qz at *
   go_wp2_with fail
   refine HM.out.mono ?_
   rintro e w8 ⟨rfl,rfl⟩
   go_wp2_with fail
   refine HC.out.mono ?_
   rintro e w9 ⟨rfl,h9⟩
   have O9 := hq' (ownsRow_keeps HO.out h9.2 (by omega))
   have S9 : Hid (∀ y ∈ acc,w9.ownsRow (p + 1) 109 3 y.2 y.1.2.length (slotCells y.1.2)) := fun y hy => ownsRow_keeps (HSL.out y hy) h9.2 (by omega)
   have B9 : Hid (Below w.heap.size w w9) := HB.out.trans (h9.2.toBelow HB.out.size (fun j hj e => by have := HP.out; omega))
   have R9 := hq' h9.1
   have T9 : Hid (TabO w9 (p + 1) (.slice av acc.length cv) (acc.map (·.1))) := ⟨acc,rfl,O9.out,S9.out⟩
   have HTK : Hid (TabOk (acc.map (·.1))) := ⟨by rw [List.length_map]; unfold maxLen; omega,fun x hx => by
    obtain ⟨y,hy,rfl⟩ := List.mem_map.1 hx
    exact HOK.out y hy⟩
   have HDN := hq' (done_any p qz w9 R9.out)
   have HT := hq' (ltab_any (acc.map (·.1)) HTK.out.1 (fun x hx => ⟨(HTK.out.2 x hx).2.1,trivial⟩) (.slice av acc.length cv) w9 T9.out.tbl)
   clear h9 HO HSL HB HR O9 S9 R9 HC HM
   by_cases hd : Bd.sDone qz = 0
   ·rw [hd] at HDN
    rw [decide_eq_true hd] at HD
    cases htb : Wi.tableB (acc.map (·.1)) with
    | true =>
     rw [htb] at HT HD
     have HD2 : Hid (Wi.decTable s = some (acc.map (·.1))) := HD.out
     clear htb hd HD
     go_wp2_with fail
     refine HDN.out.mono ?_
     rintro e w9' ⟨rfl,rfl⟩
     go_wp2_with fail
     refine HT.out.mono ?_
     rintro e wA ⟨rfl,hbA⟩
     have HBA := hq' hbA
     clear hbA
     go_wp2
     go_ret2
     rw [HD2.out]
     exact ⟨_,rfl,(T9.out.keepsS (Keeps.below (fun _ => False) HBA.out) (fun _ _ => id)).weaken (by have := HP.out; omega),HTK.out,bt B9.out HBA.out⟩
    | false =>
     rw [htb] at HT HD
     have HD2 : Hid (Wi.decTable s = none) := HD.out
     clear htb hd HD
     go_wp2_with fail
     refine HDN.out.mono ?_
     rintro e w9' ⟨rfl,rfl⟩
     go_wp2_with fail
     refine HT.out.mono ?_
     rintro e wA ⟨rfl,hbA⟩
     have HBA := hq' hbA
     clear hbA
     go_wp2
     go_ret2
     rw [HD2.out]
     exact LedR.no (bt B9.out HBA.out)
   ·rw [decide_eq_false hd] at HD
    have HD2 : Hid (Wi.decTable s = none) := HD.out
    have hd2 : (Bd.sDone qz != 0) = true := by simpa using hd
    clear HD hd
    generalize Bd.sDone qz = dn at *
    go_wp2_with fail
    refine HDN.out.mono ?_
    rintro e w9' ⟨rfl,rfl⟩
    go_wp2
    go_ret2
    rw [HD2.out]
    exact LedR.no B9.out
end Go.Proofs.YtbljbdjmgogknaaGreatDoor
