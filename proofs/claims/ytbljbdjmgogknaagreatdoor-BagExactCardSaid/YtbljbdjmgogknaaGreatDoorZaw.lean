/-
  Cwh / Wm1 / Wm2: texts of one proof, one behind the other.
  Conditions: none of its own.
-/
import Derived.Test.YtbljbdjmgogknaaGreatDoorZav
set_option linter.unusedVariables false
set_option linter.unusedSimpArgs false
set_option maxHeartbeats 12800000
set_option maxRecDepth 20000
namespace Go.Proofs.YtbljbdjmgogknaaGreatDoor
open Go.RowKit
def stN (q : Bd.St) : Nat → Bd.St
 | 0 => q
 | k + 1 => (Bd.sInt (stN q k)).2
def vN (q : Bd.St) (k : Nat) : Int := (Bd.sInt (stN q k)).1
def upN (q : Bd.St) (k j : Nat) : Value := .int .i64 (if j < k then vN q j else 0)
def cellsN (q : Bd.St) (k : Nat) (v : Value) : List Value := [upN q k 0,upN q k 1,upN q k 2,upN q k 3,upN q k 4,v]
theorem cellsN_get (q : Bd.St) (k : Nat) (hk : k < 5) (v : Value) : (cellsN q k v)[k]? = some (.int .i64 0) := by
 match k,hk with
 | 0,_ => rfl
 | 1,_ => rfl
 | 2,_ => rfl
 | 3,_ => rfl
 | 4,_ => rfl
theorem cellsN_set (q : Bd.St) (k : Nat) (hk : k < 5) (v : Value) : (cellsN q k v).set k (.int .i64 (vN q k)) = cellsN q (k + 1) v := by
 match k,hk with
 | 0,_ => rfl
 | 1,_ => rfl
 | 2,_ => rfl
 | 3,_ => rfl
 | 4,_ => rfl
theorem sNums_N (q : Bd.St) : Cr.sNums q = (vN q 0,vN q 1,vN q 2,vN q 3,vN q 4,stN q 5) := rfl
theorem stN_len (q : Bd.St) : ∀ k,(stN q k).1.length ≤ q.1.length := by
 intro k
 induction k with
 | zero => exact Nat.le_refl _
 | succ k ih => exact Nat.le_trans (sInt_len _) ih
theorem sRec_len (q : Bd.St) : (Cr.sRec q).2.2.1.length ≤ q.1.length :=
 Nat.le_trans (sSign_len _ _) (Nat.le_trans (sInt_len _) (Nat.le_trans (sText_len _ _) (Nat.le_trans (sText_len _ _) (Nat.le_trans (sInt_len _) (sSign_len _ _)))))
theorem sRec_ok (q : Bd.St) (hl : q.1.length < 4294967281) : RecOk (Cr.sRec q).1 := by
 have l1 := sSign_len 108 q
 have l2 := sInt_len (Bd.sSign 108 q)
 have l3 := sText_len 16 (Bd.sInt (Bd.sSign 108 q)).2
 have l4 := sText_le 16 (Bd.sInt (Bd.sSign 108 q)).2
 have l5 := sText_le 64 (Bd.sText 16 (Bd.sInt (Bd.sSign 108 q)).2).2
 refine ⟨sInt_inR _,?_,?_⟩
 ·unfold maxLen
  show (Bd.sText 16 (Bd.sInt (Bd.sSign 108 q)).2).1.length ≤ _
  omega
 ·unfold maxLen
  show (Bd.sText 64 (Bd.sText 16 (Bd.sInt (Bd.sSign 108 q)).2).2).1.length ≤ _
  omega
theorem ownsRow_keeps {w w' : World} {base j : Nat} {e : TypeId} {size : Nat} {v : Value} {n : Nat} {xs : List Value} (h : w.ownsRow base e size v n xs) (k : Keeps (fun i => i = j) w w') (hj : j < base) : w'.ownsRow base e size v n xs := by
 refine World.ownsRow.kept (row := some j) h ⟨k.os,k.tape,k.output,k.size,fun i hi hne => k.block i hi (fun e => hne (by rw [e]))⟩ ?_
 rcases hv : v.ownBlock with _ | g
 ·exact .inl rfl
 ·right
  intro e
  have := (h.lt g hv).1
  injection e with e
  omega
theorem ownsRow_cell {w : World} {base : Nat} {e : TypeId} {size : Nat} {v : Value} {n : Nat} {xs : List Value} (h : w.ownsRow base e size v n xs) (a : Addr) (u : Value) (hj : a.block < base) : (w.setCell a u).ownsRow base e size v n xs :=
 ownsRow_keeps (j := a.block) h (Keeps.setCell _ _ _ _ rfl) hj
def ptrsN (x : Nat) : List Value := [.pointer (some ⟨x,0,none⟩),.pointer (some ⟨x,1,none⟩),.pointer (some ⟨x,2,none⟩),.pointer (some ⟨x,3,none⟩),.pointer (some ⟨x,4,none⟩)]
theorem ptrsN_get (x k : Nat) (hk : k < 5) : (ptrsN x)[k]? = some (.pointer (some ⟨x,k,none⟩)) := by
 match k,hk with
 | 0,_ => rfl
 | 1,_ => rfl
 | 2,_ => rfl
 | 3,_ => rfl
 | 4,_ => rfl
def lenAt (w : World) (g : Nat) : Nat := match w.cell? ⟨g,5,none⟩ with
 | some (.slice _ n _) => n
 | _ => 0
theorem lenAt_of {W : World} {g n : Nat} {a b c d e : Value} {t : TypeId} {ao : Option Addr} {cap : Nat} (h : Cl W g [a,b,c,d,e,.slice ao n cap] t) : lenAt W g = n := by
 have := h.cell 5
 unfold lenAt
 rw [this]
 rfl
theorem sRecs_step (n : Nat) (acc : List Cr.Rec) (q : Bd.St) (hm : Bd.sMore q = true) : Cr.sRecs (n + 1) acc q = if (Cr.sRec q).2.1 && decide (acc.length ≤ 8) then Cr.sRecs n (acc ++ [(Cr.sRec q).1]) (Cr.sRec q).2.2 else none := by
 rw [Cr.sRecs,if_pos hm]
theorem sRecs_stop (n : Nat) (acc : List Cr.Rec) (q : Bd.St) (hm : Bd.sMore q = false) : Cr.sRecs (n + 1) acc q = some (acc,q) := by
 rw [Cr.sRecs,if_neg (by rw [hm]; simp)]
theorem recCells_app (l : List Cr.Rec) (x : Cr.Rec) : recCells (l ++ [x]) = recCells l ++ [.int .i64 x.off,.string ⟨x.key.toArray⟩,.string ⟨x.val.toArray⟩,.bool x.gone] := by simp [recCells]
theorem own_weaken {w : World} {b b' : Nat} {e : TypeId} {size : Nat} {v : Value} {n : Nat} {xs : List Value} (h : w.ownsRow b e size v n xs) (hb : b' ≤ b) : w.ownsRow b' e size v n xs := by
 refine ⟨h.1,?_⟩
 rcases h.2 with h2 | ⟨g,cap,cur,e1,hB,r⟩
 ·exact .inl h2
 ·exact .inr ⟨g,cap,cur,e1,Nat.le_trans hb hB,r⟩
def BatO (w : World) (o : Option Cr.Batch) (bad : Int) (e : Ending) (w' : World) : Prop :=
 ∃ rv,e = .returned (.tuple #[batV (o.getD zeroBat) rv,.int .i64 (if o.isSome then 0 else bad)]) ∧ w'.ownsRow w.heap.size 67 4 rv (o.getD zeroBat).recs.length (recCells (o.getD zeroBat).recs) ∧ BatOk (o.getD zeroBat) ∧ Below w.heap.size w w'
theorem BatO.no {w w' : World} {bad : Int} (h : Below w.heap.size w w') : BatO w none bad (.returned (.tuple #[.agg zeroCells.toArray,.int .i64 bad])) w' :=
 ⟨.slice none 0 0,rfl,⟨rfl,.inl ⟨rfl,rfl⟩⟩,⟨⟨by decide,by decide⟩,⟨by decide,by decide⟩,⟨by decide,by decide⟩,⟨by decide,by decide⟩,⟨by decide,by decide⟩,by unfold maxLen; exact Nat.zero_le _,fun x hx => by cases hx⟩,h⟩
theorem decode_own (s : List UInt8) (hs : s.length < 4294967281) (w : World) (hw : Lw w) :
  Calls Tryz.prog 96 #[.string ⟨s.toArray⟩] w (BatO w (Cr.dec s) 3) := by
 have HW := hq' hw
 have hs1 := World.size_alloc w (.cells #[.int .i64 0,.int .i64 0,.int .i64 0,.int .i64 0,.int .i64 0,.slice none 0 0] 36)
 have K0 : Hid (Keeps (fun k => k = w.heap.size + 1 ∨ w.heap.size ≤ k) w (w.alloc (.cells #[.int .i64 0,.int .i64 0,.int .i64 0,.int .i64 0,.int .i64 0,.slice none 0 0] 36))) := Keeps.alloc _ _ _
 have C0 : Hid (Cl (w.alloc (.cells #[.int .i64 0,.int .i64 0,.int .i64 0,.int .i64 0,.int .i64 0,.slice none 0 0] 36)) w.heap.size zeroCells 36) := Cl.new w zeroCells 36
 have HD : Hid (Cr.dec s = Cr.fin (Cr.sNums (Bd.sSign 108 (s,false))) (Cr.sRecs 11 [] (Cr.sNums (Bd.sSign 108 (s,false))).2.2.2.2.2)) := Cr.dec_fin s
 have hq : (Bd.sSign 108 (s,false)).1.length ≤ s.length := sSign_len 108 (s,false)
 have HQ : Hid (∀ W,Rd W (w.heap.size + 1) (s,false) → Calls Tryz.prog 58 #[.pointer (some ⟨w.heap.size + 1,0,none⟩)] W fun e w' => e = .returned (.tuple #[]) ∧ Rds W (w.heap.size + 1) (Bd.sSign 108 (s,false)) w') := fun W h => open_any _ _ _ h
 generalize Bd.sSign 108 (s,false) = q at *
 rw [sNums_N] at HD
 clear hw
 go_enter Tryz.func96,Tryz.ntmps96
 go_wp2_with fail
 refine wp_scope_fwd 0 rfl ?_
 go_wp2_with fail
 refine (new_any s _).mono ?_
 rintro e w1 ⟨rfl,rfl⟩
 have X1 : Hid (Rx w (w.heap.size + 1) w.heap.size ((w.alloc (.cells #[.int .i64 0,.int .i64 0,.int .i64 0,.int .i64 0,.int .i64 0,.slice none 0 0] 36)).alloc (.cells #[.string ⟨s.toArray⟩,.bool false] 129)) (s,false) zeroCells 36) :=
  ⟨by have := Rd.new s (w.alloc (.cells #[.int .i64 0,.int .i64 0,.int .i64 0,.int .i64 0,.int .i64 0,.slice none 0 0] 36)); rwa [hs1] at this,C0.out.alloc _,by omega,Nat.le_refl _,K0.out.trans (Keeps.alloc _ _ _)⟩
 rw [hs1]
 clear C0 K0 hs1
 generalize hp : w.heap.size + 1 = p at *
 generalize hx : w.heap.size = x at *
 go_wp2_with fail
 refine (HQ.out _ X1.out.1).mono ?_
 rintro e w2 ⟨rfl,h2⟩
 have X2 := hq' (X1.out.call h2)
 have hpl := X2.out.1.lt
 clear h2 X1 HQ
 have P3 : Hid (Cl (w2.alloc (.cells #[.pointer (some ⟨x,0,none⟩),.pointer (some ⟨x,1,none⟩),.pointer (some ⟨x,2,none⟩),.pointer (some ⟨x,3,none⟩),.pointer (some ⟨x,4,none⟩)] 161)) w2.heap.size (ptrsN x) 161) := Cl.new w2 (ptrsN x) _
 have X3 : Hid (Rx w p x (w2.alloc (.cells #[.pointer (some ⟨x,0,none⟩),.pointer (some ⟨x,1,none⟩),.pointer (some ⟨x,2,none⟩),.pointer (some ⟨x,3,none⟩),.pointer (some ⟨x,4,none⟩)] 161)) (stN q 0) (cellsN q 0 (.slice none 0 0)) 36) :=
  ⟨X2.out.1.keep (S := fun _ => False) (Keeps.alloc _ _ _) id,X2.out.2.1.alloc _,X2.out.2.2.1,X2.out.2.2.2.1,X2.out.2.2.2.2.trans (Keeps.alloc _ _ _)⟩
 have hpx : p ≠ w2.heap.size := by omega
 have hxx : x ≠ w2.heap.size := by omega
 clear X2
 go_wp2_with fail
 generalize w2.alloc (.cells #[.pointer (some ⟨x,0,none⟩),.pointer (some ⟨x,1,none⟩),.pointer (some ⟨x,2,none⟩),.pointer (some ⟨x,3,none⟩),.pointer (some ⟨x,4,none⟩)] 161) = w3 at *
 generalize w2.heap.size = pb at *
 go_loopw [20] (fun i wr => ∃ k : Nat,i = .int .i64 k ∧ k ≤ 5 ∧ Rx w p x wr (stN q k) (cellsN q k (.slice none 0 0)) 36 ∧ Cl wr pb (ptrsN x) 161) (fun i _ => 5 - (intOf i).toNat)
 case atStart => exact ⟨0,rfl,by omega,X3.out,P3.out⟩
 case round =>
  obtain ⟨k,rfl,hk,hrx,hcl⟩ := hrel
  have X4 := hq' hrx
  have P4 := hq' hcl
  clear hrx hcl X3 P3
  by_cases hlt : k < 5
  ·have hc1 := (P4.out.cell k).trans (ptrsN_get x k hlt)
   have hln := stN_len q k
   have HN : Hid (Calls Tryz.prog 92 #[.pointer (some ⟨p,0,none⟩)] wr (RdV (.int .i64 (vN q k)) wr p (stN q (k + 1)))) := int_any p (stN q k) wr X4.out.1 (by omega) (X4.out.2.2.2.2.lw HW.out (by omega))
   have HCS := cellsN_set q k hlt (.slice none 0 0)
   have HCG := cellsN_get q k hlt (.slice none 0 0)
   go_wp2_with fail
   refine HN.out.mono ?_
   rintro e w5 ⟨rfl,h5⟩
   have X5 := hq' (X4.out.call h5)
   have P5 := hq' (P4.out.keep h5.2 (fun e => hpx e.symm))
   have d0 := (X5.out.2.1.cell k).trans HCG
   have f0 := X5.out.2.1.free k
   have X6 : Hid (Rx w p x (w5.setCell ⟨x,k,none⟩ (.int .i64 (vN q k))) (stN q (k + 1)) (cellsN q (k + 1) (.slice none 0 0)) 36) := by
    rw [← HCS]
    exact X5.out.store k _
   have P6 := hq' (P5.out.other ⟨x,k,none⟩ (.int .i64 (vN q k)) hxx)
   clear h5 X4 P4 HN HCS HCG X5 P5
   generalize vN q k = n at *
   go_wp2
   go_roundw
   case rel => exact ⟨k + 1,by go_num,by omega,X6.out,P6.out⟩
   case measure => simp [intOf]; omega
  ·obtain rfl : k = 5 := by omega
   have hln := stN_len q 5
   have X5 : Hid (Rx w p x wr (stN q 5) [.int .i64 (vN q 0),.int .i64 (vN q 1),.int .i64 (vN q 2),.int .i64 (vN q 3),.int .i64 (vN q 4),.slice none 0 0] 36) := X4.out
   have HV : Hid (Bd.inR (vN q 0) ∧ Bd.inR (vN q 1) ∧ Bd.inR (vN q 2) ∧ Bd.inR (vN q 3) ∧ Bd.inR (vN q 4)) := ⟨sInt_inR _,sInt_inR _,sInt_inR _,sInt_inR _,sInt_inR _⟩
   have HDN : Hid (Cr.sRecs 11 [] (stN q 5) = none → Cr.dec s = none) := fun h => by rw [HD.out,h]; rfl
   have HDS : Hid (∀ rs qz,Cr.sRecs 11 [] (stN q 5) = some (rs,qz) → Cr.dec s = if (decide (Bd.sDone (Bd.sSign 101 qz) = 0) && Cr.good ⟨vN q 0,vN q 1,vN q 2,vN q 3,vN q 4,rs⟩) then some ⟨vN q 0,vN q 1,vN q 2,vN q 3,vN q 4,rs⟩ else none) := fun rs qz h => by rw [HD.out,h]; rfl
   clear X4 P4 HD
   rw [show ((5 : Nat) : Int) = 5 from rfl]
   generalize vN q 0 = n0 at *
   generalize vN q 1 = n1 at *
   generalize vN q 2 = n2 at *
   generalize vN q 3 = n3 at *
   generalize vN q 4 = n4 at *
   generalize stN q 5 = q5 at *
   have hB := X5.out.1.lt
   generalize wr = w7 at *
   go_wp2_with fail
   go_loopw [30] (fun _ wr => ∃ (acc : List Cr.Rec) (qq : Bd.St) (v : Value),Rx w p x wr qq [.int .i64 n0,.int .i64 n1,.int .i64 n2,.int .i64 n3,.int .i64 n4,v] 36 ∧ wr.ownsRow w7.heap.size 67 4 v acc.length (recCells acc) ∧ acc.length ≤ 9 ∧
    Cr.sRecs 11 [] q5 = Cr.sRecs (11 - acc.length) acc qq ∧ qq.1.length ≤ q5.1.length ∧ (∀ x ∈ acc,RecOk x) ∧ w7.heap.size ≤ wr.heap.size) (fun _ W => 10 - lenAt W x)
   case atStart => exact ⟨[],q5,.slice none 0 0,X5.out,⟨rfl,.inl ⟨rfl,rfl⟩⟩,by simp,rfl,Nat.le_refl _,by simp,Nat.le_refl _⟩
   case round =>
    obtain ⟨acc,qq,v,hrx,hown,hal,hsr,hql,hao,hbs⟩ := hrel
    have X8 := hq' hrx
    have O8 := hq' hown
    have HSR := hq' hsr
    have HAO := hq' hao
    have hn11 : 11 - acc.length = (10 - acc.length) + 1 := by omega
    have HLW : Hid (∀ W,Kp wr p W → Lw W) := fun W hW => (X8.out.2.2.2.2.trans hW).lw HW.out (by omega)
    have HM := hq' (more_any p qq wr X8.out.1)
    have HST := hq' (sRecs_step (10 - acc.length) acc qq)
    have HSP := hq' (sRecs_stop (10 - acc.length) acc qq)
    rw [hn11] at HSR
    obtain ⟨c0,c1,c2,c3,c4,c5⟩ := X8.out.2.1.cell6
    clear hrx hown hsr hao
    cases hm : Bd.sMore qq with
    | true =>
     have HS2 : Hid (Cr.sRecs 11 [] q5 = if (Cr.sRec qq).2.1 && decide (acc.length ≤ 8) then Cr.sRecs (10 - acc.length) (acc ++ [(Cr.sRec qq).1]) (Cr.sRec qq).2.2 else none) := by rw [Hid,HSR.out,HST.out hm]
     have HRC := hq' (rec_any p qq wr X8.out.1 (by omega) HLW.out)
     have hrl := sRec_len qq
     have HRO := hq' (sRec_ok qq (by omega))
     rw [hm] at HM
     clear hm HST HSP HSR
     generalize (Cr.sRec qq).1 = rx at *
     generalize hok : (Cr.sRec qq).2.1 = ok at *
     generalize (Cr.sRec qq).2.2 = q9 at *
     obtain ⟨r0,rk,rv,rg⟩ := rx
     unfold recV at HRC
     dsimp only at *
     go_wp2_with fail
     refine HM.out.mono ?_
     rintro e w8 ⟨rfl,rfl⟩
     go_wp2_with fail
     refine HRC.out.mono ?_
     rintro e w9 ⟨rfl,h9⟩
     have X9 := hq' (X8.out.call h9)
     have O9 := hq' (ownsRow_keeps O8.out h9.2 (by omega))
     have hs9 := h9.2.size
     have XA : Hid (Rx w p x (w9.alloc (.cells #[.int .i64 r0,.string ⟨rk.toArray⟩,.string ⟨rv.toArray⟩,.bool rg] 67)) q9 [.int .i64 n0,.int .i64 n1,.int .i64 n2,.int .i64 n3,.int .i64 n4,v] 36) :=
      ⟨X9.out.1.keep (S := fun _ => False) (Keeps.alloc _ _ _) id,X9.out.2.1.alloc _,X9.out.2.2.1,X9.out.2.2.2.1,X9.out.2.2.2.2.trans (Keeps.alloc _ _ _)⟩
     have CA : Hid (Cl (w9.alloc (.cells #[.int .i64 r0,.string ⟨rk.toArray⟩,.string ⟨rv.toArray⟩,.bool rg] 67)) w9.heap.size [.int .i64 r0,.string ⟨rk.toArray⟩,.string ⟨rv.toArray⟩,.bool rg] 67) := Cl.new _ _ _
     have OA := hq' (World.ownsRow.alloc O9.out (.cells #[.int .i64 r0,.string ⟨rk.toArray⟩,.string ⟨rv.toArray⟩,.bool rg] 67))
     have hsa := World.size_alloc w9 (.cells #[.int .i64 r0,.string ⟨rk.toArray⟩,.string ⟨rv.toArray⟩,.bool rg] 67)
     have X8' := hq' X8.out.2.1
     clear h9 X9 O9 c0 c1 c2 c3 c4 c5 X8 O8
     obtain ⟨c0,c1,c2,c3,c4,c5⟩ := XA.out.2.1.cell6
     obtain ⟨f0,f1,f2,f3,f4,f5⟩ := XA.out.2.1.free6
     obtain ⟨t0,t1,t2,t3⟩ := CA.out.cell4
     obtain ⟨av,capv,hve,hcv⟩ : ∃ a c,v = .slice a acc.length c ∧ True := by
      rcases OA.out.2 with ⟨rfl,h0⟩ | ⟨g,cap,cur,rfl,_⟩
      ·exact ⟨none,0,by rw [h0],trivial⟩
      ·exact ⟨_,_,rfl,trivial⟩
     subst hve
     have HL0 := hq' (lenAt_of X8'.out)
     have hlA : w9.heap.size < (w9.alloc (.cells #[.int .i64 r0,.string ⟨rk.toArray⟩,.string ⟨rv.toArray⟩,.bool rg] 67)).heap.size := by omega
     clear hsa
     go_upto_region 10 with (fail)
     generalize w9.alloc (.cells #[.int .i64 r0,.string ⟨rk.toArray⟩,.string ⟨rv.toArray⟩,.bool rg] 67) = wA at *
     cases ok with
     | false =>
      have HNO : Hid (Cr.dec s = none) := HDN.out (by rw [HS2.out]; rfl)
      go_wp2
      go_step3
      refine ⟨rfl,?_⟩
      go_wp2
      rw [Exit.noGoto_ret]
      have Z := (((((XA.out.store 0 (.int .i64 0)).store 1 (.int .i64 0)).store 2 (.int .i64 0)).store 3 (.int .i64 0)).store 4 (.int .i64 0)).store 5 (.slice none 0 0)
      refine bodyPost_ret (results_cl_tmp rfl _ _ _ _ _ _ rfl Z.2.1 Tryz.underlying36 rfl (by kernel_rfl)) rfl ?_
      rw [HNO.out]
      exact BatO.no (Z.bel (by omega))
     | true =>
      by_cases hl8 : acc.length ≤ 8
      ·have HS3 : Hid (Cr.sRecs 11 [] q5 = Cr.sRecs (10 - acc.length) (acc ++ [⟨r0,rk,rv,rg⟩]) q9) := by rw [Hid,HS2.out,decide_eq_true hl8]; rfl
       obtain ⟨i0,hi,hz0,hz1,hz2⟩ := info_parts recInfo
       have hone : ∀ u ∈ [Value.int .i64 r0,.string ⟨rk.toArray⟩,.string ⟨rv.toArray⟩,.bool rg],u.oneCell' = true := by simp [Value.oneCell']
       have hbase : w7.heap.size ≤ wA.heap.size := by omega
       clear HS2 HDS HRC HM
       go_wp2_with (at_builtin; refine wpList_append_own _ rfl (.tmp 45) (.tmp 47) 34 rfl w7.heap.size 67 i0 _ 4 48 Tryz.underlying34 hi hz0 hz1 hz2 rfl (by decide) _ _ _ rfl (World.ownsRow.alloc OA.out _) ⟨wA.heap.size,0,none⟩ 1 1 [.int .i64 r0,.string ⟨rk.toArray⟩,.string ⟨rv.toArray⟩,.bool rg] rfl rfl (World.news_of_block (cs := #[.int .i64 r0,.string ⟨rk.toArray⟩,.string ⟨rv.toArray⟩,.bool rg]) (t := 67) (fr := (0,0)) (heap_alloc_new wA _)) hone ?_ ?_ ?_ ?_)
       ·unfold maxLen; omega
       ·omega
       ·simp; omega
       intro v' wB hownB hgB _
       have OB : Hid (wB.ownsRow w7.heap.size 67 4 v' (acc ++ [(⟨r0,rk,rv,rg⟩ : Cr.Rec)]).length (recCells (acc ++ [⟨r0,rk,rv,rg⟩]))) := by
        rw [Hid,recCells_app,List.length_append]
        exact hownB
       have KB : Hid (Keeps (fun j => w7.heap.size ≤ j) wA wB) := (Keeps.alloc _ _ _).trans (Keeps.grown hgB (fun j hj => (OA.out.lt j hj).1))
       have XB := hq' (XA.out.keeps KB.out (by omega) (by omega))
       have hsB := KB.out.size
       obtain ⟨av',capv',hve'⟩ : ∃ a c,v' = .slice a (acc.length + 1) c := by
        rcases hownB.2 with ⟨_,h0⟩ | ⟨g,cap,cur,rfl,_⟩
        ·omega
        ·exact ⟨_,_,rfl⟩
       subst hve'
       clear hownB hgB KB c0 c1 c2 c3 c4 c5 f0 f1 f2 f3 f4 f5 t0 t1 t2 t3
       obtain ⟨c0,c1,c2,c3,c4,c5⟩ := XB.out.2.1.cell6
       obtain ⟨f0,f1,f2,f3,f4,f5⟩ := XB.out.2.1.free6
       have XC : Hid (Rx w p x (wB.setCell ⟨x,5,none⟩ (.slice av' (acc.length + 1) capv')) q9 [.int .i64 n0,.int .i64 n1,.int .i64 n2,.int .i64 n3,.int .i64 n4,.slice av' (acc.length + 1) capv'] 36) := XB.out.store 5 _
       have OC := hq' (ownsRow_cell OB.out ⟨x,5,none⟩ (.slice av' (acc.length + 1) capv') (by simp only; omega))
       have hsC : w7.heap.size ≤ (wB.setCell ⟨x,5,none⟩ (.slice av' (acc.length + 1) capv')).heap.size := by
        have : (wB.setCell ⟨x,5,none⟩ (.slice av' (acc.length + 1) capv')).heap.size = wB.heap.size := by simp [World.setCell]
        omega
       have HL1 := hq' (lenAt_of XC.out.2.1)
       go_wp2
       go_roundw
       case rel =>
        refine ⟨acc ++ [(⟨r0,rk,rv,rg⟩ : Cr.Rec)],q9,_,XC.out,OC.out,by rw [List.length_append,List.length_singleton]; omega,?_,by omega,?_,hsC⟩
        ·rw [HS3.out,List.length_append,List.length_singleton,show 11 - (acc.length + 1) = 10 - acc.length by omega]
        ·intro y hy
         rcases List.mem_append.1 hy with hy | hy
         ·exact HAO.out y hy
         ·rw [List.mem_singleton.1 hy]; exact HRO.out
       case measure =>
        rw [HL1.out,HL0.out]
        omega
      ·have HNO : Hid (Cr.dec s = none) := HDN.out (by rw [HS2.out,decide_eq_false hl8]; rfl)
       go_wp2
       go_step3
       refine ⟨rfl,?_⟩
       go_wp2
       rw [Exit.noGoto_ret]
       have Z := (((((XA.out.store 0 (.int .i64 0)).store 1 (.int .i64 0)).store 2 (.int .i64 0)).store 3 (.int .i64 0)).store 4 (.int .i64 0)).store 5 (.slice none 0 0)
       refine bodyPost_ret (results_cl_tmp rfl _ _ _ _ _ _ rfl Z.2.1 Tryz.underlying36 rfl (by kernel_rfl)) rfl ?_
       rw [HNO.out]
       exact BatO.no (Z.bel (by omega))
    | false =>
     have HFN := hq' (HDS.out acc qq (by rw [HSR.out,HSP.out hm]))
     rw [hm] at HM
     have HCL := hq' (close_any p qq wr X8.out.1)
     have HRS : Hid (∀ W,Recs W v acc → True) := fun _ _ => trivial
     clear hm HST HSP HSR HDN HDS HRS
     generalize Bd.sSign 101 qq = qa at *
     go_wp2_with fail
     refine HM.out.mono ?_
     rintro e w8 ⟨rfl,rfl⟩
     go_wp2_with fail
     refine HCL.out.mono ?_
     rintro e w9 ⟨rfl,h9⟩
     have X9 := hq' (X8.out.call h9)
     have O9 := hq' (ownsRow_keeps O8.out h9.2 (by omega))
     clear h9 X8 O8 HCL HM c0 c1 c2 c3 c4 c5
     obtain ⟨av,capv,hve⟩ : ∃ a c,v = .slice a acc.length c := by
      rcases O9.out.2 with ⟨rfl,h0⟩ | ⟨g,cap,cur,rfl,_⟩
      ·exact ⟨none,0,by rw [h0]⟩
      ·exact ⟨_,_,rfl⟩
     subst hve
     obtain ⟨c0,c1,c2,c3,c4,c5⟩ := X9.out.2.1.cell6
     obtain ⟨f0,f1,f2,f3,f4,f5⟩ := X9.out.2.1.free6
     have HDN9 := hq' (done_any p qa w9 X9.out.1)
     by_cases hd : Bd.sDone qa = 0
     ·rw [hd] at HDN9
      have HG := hq' (good_any ⟨n0,n1,n2,n3,n4,acc⟩ ⟨HV.out.1,HV.out.2.1,HV.out.2.2.1,HV.out.2.2.2.1,HV.out.2.2.2.2,by unfold maxLen; show acc.length ≤ _; omega,HAO.out⟩ (.slice av acc.length capv) w9 (Sl.ofOwn O9.out).recs)
      unfold batV at HG
      dsimp only at HG
      rw [decide_eq_true hd] at HFN
      cases hgd : Cr.good ⟨n0,n1,n2,n3,n4,acc⟩ with
      | true =>
       rw [hgd] at HG HFN
       clear hgd hd
       go_wp2_with fail
       refine HDN9.out.mono ?_
       rintro e w9' ⟨rfl,rfl⟩
       go_wp2_with fail
       refine HG.out.mono ?_
       rintro e wA ⟨rfl,hbA⟩
       have XA := hq' (X9.out.below hbA)
       have OA := hq' (ownsRow_below O9.out hbA)
       clear hbA X9 O9 HG c0 c1 c2 c3 c4 c5 f0 f1 f2 f3 f4 f5
       obtain ⟨c0,c1,c2,c3,c4,c5⟩ := XA.out.2.1.cell6
       obtain ⟨f0,f1,f2,f3,f4,f5⟩ := XA.out.2.1.free6
       go_wp2
       have Z := (((((XA.out.store 0 (.int .i64 n0)).store 1 (.int .i64 n1)).store 2 (.int .i64 n2)).store 3 (.int .i64 n3)).store 4 (.int .i64 n4)).store 5 (.slice av acc.length capv)
       have O := ownsRow_cell (ownsRow_cell (ownsRow_cell (ownsRow_cell (ownsRow_cell (ownsRow_cell OA.out ⟨x,0,none⟩ (.int .i64 n0) (by simp only; omega)) ⟨x,1,none⟩ (.int .i64 n1) (by simp only; omega)) ⟨x,2,none⟩ (.int .i64 n2) (by simp only; omega)) ⟨x,3,none⟩ (.int .i64 n3) (by simp only; omega)) ⟨x,4,none⟩ (.int .i64 n4) (by simp only; omega)) ⟨x,5,none⟩ (.slice av acc.length capv) (by simp only; omega)
       refine bodyPost_ret (results_cl_tmp rfl _ _ _ _ _ _ rfl Z.2.1 Tryz.underlying36 rfl (by kernel_rfl)) rfl ?_
       rw [HFN.out]
       exact ⟨.slice av acc.length capv,rfl,own_weaken O (by omega),⟨HV.out.1,HV.out.2.1,HV.out.2.2.1,HV.out.2.2.2.1,HV.out.2.2.2.2,by unfold maxLen; show acc.length ≤ _; omega,HAO.out⟩,Z.bel (by omega)⟩
      | false =>
       rw [hgd] at HG HFN
       clear hgd hd
       have HNO : Hid (Cr.dec s = none) := HFN.out
       go_wp2_with fail
       refine HDN9.out.mono ?_
       rintro e w9' ⟨rfl,rfl⟩
       go_wp2_with fail
       refine HG.out.mono ?_
       rintro e wA ⟨rfl,hbA⟩
       have XA := hq' (X9.out.below hbA)
       clear hbA X9 O9 HG c0 c1 c2 c3 c4 c5 f0 f1 f2 f3 f4 f5
       obtain ⟨c0,c1,c2,c3,c4,c5⟩ := XA.out.2.1.cell6
       obtain ⟨f0,f1,f2,f3,f4,f5⟩ := XA.out.2.1.free6
       go_wp2
       refine wp_label ?_
       go_wp2
       try simp only [Exit.jump]
       have Z := (((((XA.out.store 0 (.int .i64 0)).store 1 (.int .i64 0)).store 2 (.int .i64 0)).store 3 (.int .i64 0)).store 4 (.int .i64 0)).store 5 (.slice none 0 0)
       refine bodyPost_ret (results_cl_tmp rfl _ _ _ _ _ _ rfl Z.2.1 Tryz.underlying36 rfl (by kernel_rfl)) rfl ?_
       rw [HNO.out]
       exact BatO.no (Z.bel (by omega))
     ·have HNO : Hid (Cr.dec s = none) := by rw [Hid,HFN.out,decide_eq_false hd]; rfl
      have hd2 : (Bd.sDone qa == 0) = false := by simpa using hd
      generalize Bd.sDone qa = dn at *
      go_wp2_with fail
      refine HDN9.out.mono ?_
      rintro e w9' ⟨rfl,rfl⟩
      go_wp2
      try simp only [Exit.jump]
      refine wp_label ?_
      go_wp2
      have Z := (((((X9.out.store 0 (.int .i64 0)).store 1 (.int .i64 0)).store 2 (.int .i64 0)).store 3 (.int .i64 0)).store 4 (.int .i64 0)).store 5 (.slice none 0 0)
      refine bodyPost_ret (results_cl_tmp rfl _ _ _ _ _ _ rfl Z.2.1 Tryz.underlying36 rfl (by kernel_rfl)) rfl ?_
      rw [HNO.out]
      exact BatO.no (Z.bel (by omega))
def slLen : Value → Nat
 | .slice _ n _ => n
 | _ => 0
theorem sMany_cnt {α : Type} (f : Bd.St → α × Bd.St) : ∀ (n : Nat) (q : Bd.St),(Wi.sMany f n q).1.length ≤ n
 | 0,q => Nat.le_refl 0
 | n + 1,q => by
  rw [Wi.sMany]
  split
  ·exact Nat.succ_le_succ (sMany_cnt f n _)
  ·exact Nat.zero_le _
theorem sAll_cnt {α : Type} (f : Bd.St → α × Bd.St) (q : Bd.St) : (Wi.sAll f q).1.length ≤ q.1.length + 1 := sMany_cnt f _ q
theorem own_form {w : World} {b : Nat} {e : TypeId} {size : Nat} {v : Value} {n : Nat} {xs : List Value} (h : w.ownsRow b e size v n xs) : ∃ a c,v = .slice a n c := by
 rcases h.2 with ⟨rfl,h0⟩ | ⟨g,cap,cur,rfl,_⟩
 ·exact ⟨none,0,by rw [h0]⟩
 ·exact ⟨_,_,rfl⟩
theorem numbers_any (p : Nat) (q : Bd.St) (w : World) (h : Rd w p q) (hl : q.1.length < 4294967281) (hw : ∀ W,Kp w p W → Lw W) :
  Calls Tryz.prog 120 #[.pointer (some ⟨p,0,none⟩)] w fun e w' => ∃ v,e = .returned v ∧ w'.ownsRow w.heap.size 3 1 v (Wi.sInts q).1.length (iv (Wi.sInts q).1) ∧ Rd w' p (Wi.sInts q).2 ∧ Kp w p w' := by
 have HW := hq' hw
 have HQ := hq' (open_any p q w h)
 have hpl := h.lt
 have hql := sSign_len 108 q
 obtain ⟨i0,hi,hz0,hz1,hz2⟩ := info_parts cinfoInt
 have HS : Hid (Wi.sInts q = ((Wi.sAll Bd.sInt (Bd.sSign 108 q)).1,Bd.sSign 101 (Wi.sAll Bd.sInt (Bd.sSign 108 q)).2)) := rfl
 have hcnt := sAll_cnt Bd.sInt (Bd.sSign 108 q)
 clear h hw
 rw [HS.out]
 generalize Bd.sSign 108 q = q1 at *
 clear HS
 go_enter Tryz.func120,Tryz.ntmps120
 go_wp2_with fail
 refine HQ.out.mono ?_
 rintro e w1 ⟨rfl,h1⟩
 have R1 := hq' h1.1
 have K1 : Hid (Kp w p w1) := h1.2.mono (fun j _ e => .inl e)
 clear h1 HQ
 go_wp2
 go_loopw [2] (fun v wr => ∃ (acc : List Int) (qq : Bd.St),wr.ownsRow w.heap.size 3 1 v acc.length (iv acc) ∧ Rd wr p qq ∧ Kp w p wr ∧ Wi.At Bd.sInt q1 acc qq ∧ qq.1.length ≤ q1.1.length) (fun v _ => q1.1.length + 2 - slLen v)
 case atStart => exact ⟨[],q1,⟨rfl,.inl ⟨rfl,rfl⟩⟩,R1.out,K1.out,Wi.At.start _ _,Nat.le_refl _⟩
 case round =>
  obtain ⟨acc,qq,ho,hr,hk,ha,hlq⟩ := hrel
  have HO := hq' ho
  have HR := hq' hr
  have HK := hq' hk
  have HA := hq' ha
  have hszr := hk.size
  have hal := Nat.le_trans (ha.len Wi.sInt_shr) hcnt
  have HM := hq' (more_any p qq wr hr)
  obtain ⟨av,cv,hve⟩ := own_form ho
  subst hve
  clear ho hr hk ha
  cases hm : Bd.sMore qq with
  | true =>
   have HN := hq' (HA.out.next Wi.sInt_shr hm)
   have hln := sInt_len qq
   have hal2 := Nat.le_trans (HN.out.len Wi.sInt_shr) hcnt
   rw [List.length_append,List.length_singleton] at hal2
   have HI := hq' (int_any p qq wr HR.out (by omega) (HW.out _ HK.out))
   rw [hm] at HM
   clear hm HA
   generalize (Bd.sInt qq).1 = n at *
   generalize (Bd.sInt qq).2 = q9 at *
   go_wp2_with fail
   refine HM.out.mono ?_
   rintro e w8 ⟨rfl,rfl⟩
   go_wp2_with fail
   refine HI.out.mono ?_
   rintro e w9 ⟨rfl,h9⟩
   have O9 := hq' (ownsRow_keeps HO.out h9.2 hpl)
   have K9 := hq' (HK.out.call h9)
   have R9 := hq' h9.1
   have hs9 := h9.2.size
   clear h9 HM HI HO HK HR
   go_wp2_with (at_builtin; refine wpList_append_own _ rfl _ _ 30 rfl w.heap.size 3 i0 (.int .i64 0) 1 8 Tryz.underlying30 hi hz0 hz1 hz2 rfl (by decide) _ _ _ rfl (World.ownsRow.alloc O9.out _) ⟨w9.heap.size,0,none⟩ 1 1 (iv [n]) rfl rfl (icells_new _ [n] _) ?_ ?_ ?_ ?_ ?_)
   ·simp [iv,Value.oneCell']
   ·unfold maxLen; omega
   ·omega
   ·simp; omega
   intro v' wB hownB hgB _
   have KB : Hid (Keeps (fun j => w.heap.size ≤ j) w9 wB) := (Keeps.alloc _ _ _).trans (Keeps.grown hgB (fun j hj => (O9.out.lt j hj).1))
   have OB : Hid (wB.ownsRow w.heap.size 3 1 v' (acc ++ [n]).length (iv (acc ++ [n]))) := by
    rw [Hid,iv_append,List.length_append]
    exact hownB
   have RB := hq' (R9.out.keep KB.out (by omega))
   have KPB : Hid (Kp w p wB) := show Keeps (fun k => k = p ∨ w.heap.size ≤ k) w wB from Keeps.trans K9.out (KB.out.mono fun j _ e => .inr e)
   obtain ⟨av',cv',hve'⟩ := own_form hownB
   subst hve'
   clear hownB hgB KB
   go_wp2
   go_roundw
   case rel => exact ⟨acc ++ [n],q9,OB.out,RB.out,KPB.out,HN.out,by omega⟩
   case measure => simp only [slLen]; omega
  | false =>
   have HE := HA.out.stop hm
   have HEE := hq' HE
   rw [hm] at HM
   have HC := hq' (close_any p qq wr HR.out)
   clear hm HA HE
   go_wp2_with fail
   refine HM.out.mono ?_
   rintro e w8 ⟨rfl,rfl⟩
   go_wp2_with fail
   refine HC.out.mono ?_
   rintro e w9 ⟨rfl,h9⟩
   have O9 := hq' (ownsRow_keeps HO.out h9.2 hpl)
   have K9 := hq' (HK.out.call h9)
   have R9 := hq' h9.1
   clear h9
   go_wp2
   go_ret
   refine ⟨_,rfl,?_,?_,K9.out⟩
   ·rw [HEE.out]; exact O9.out
   ·rw [HEE.out]; exact R9.out
theorem ownsRow_box {w w' : World} {base j : Nat} {e : TypeId} {size : Nat} {v : Value} {n : Nat} {xs : List Value} (h : w.ownsRow base e size v n xs) (k : Keeps (fun i => i = j) w w') (hj : some j ≠ v.ownBlock) : w'.ownsRow base e size v n xs := by
 refine World.ownsRow.kept (row := some j) h ⟨k.os,k.tape,k.output,k.size,fun i hi hne => k.block i hi (fun e => hne (by rw [e]))⟩ ?_
 rcases hv : v.ownBlock with _ | g
 ·exact .inl rfl
 ·right
  intro e
  exact hj (by rw [hv,e])
theorem readRecs_any (p : Nat) (q : Bd.St) (w : World) (h : Rd w p q) (hl : q.1.length < 4294967281) (hw : ∀ W,Kp w p W → Lw W) :
  Calls Tryz.prog 119 #[.pointer (some ⟨p,0,none⟩)] w fun e w' => ∃ v,e = .returned (.tuple #[v,.bool (Wi.sRecs q).1.2]) ∧ w'.ownsRow w.heap.size 67 4 v (Wi.sRecs q).1.1.length (recCells (Wi.sRecs q).1.1) ∧ Rd w' p (Wi.sRecs q).2 ∧ Kp w p w' := by
 have HW := hq' hw
 have HQ := hq' (open_any p q w h)
 have hpl := h.lt
 have hql := sSign_len 108 q
 obtain ⟨i0,hi,hz0,hz1,hz2⟩ := info_parts recInfo
 have HS : Hid (Wi.sRecs q = (((Wi.sAll Wi.sRec4 (Bd.sSign 108 q)).1.map (·.1),(Wi.sAll Wi.sRec4 (Bd.sSign 108 q)).1.all (·.2)),Bd.sSign 101 (Wi.sAll Wi.sRec4 (Bd.sSign 108 q)).2)) := rfl
 have hcnt := sAll_cnt Wi.sRec4 (Bd.sSign 108 q)
 clear h hw
 rw [HS.out]
 generalize Bd.sSign 108 q = q1 at *
 clear HS
 go_enter Tryz.func119,Tryz.ntmps119
 go_wp2_with fail
 refine HQ.out.mono ?_
 rintro e w1 ⟨rfl,h1⟩
 have R1 := hq' h1.1
 have K1 : Hid (Kp w p w1) := h1.2.mono (fun j _ e => .inl e)
 clear h1 HQ
 go_wp2
 go_loopw [2,3] (fun v o wr => ∃ (acc : List (Cr.Rec × Bool)) (qq : Bd.St),o = .bool (acc.all (·.2)) ∧ wr.ownsRow w.heap.size 67 4 v acc.length (recCells (acc.map (·.1))) ∧ Rd wr p qq ∧ Kp w p wr ∧ Wi.At Wi.sRec4 q1 acc qq ∧ qq.1.length ≤ q1.1.length) (fun v _ _ => q1.1.length + 2 - slLen v)
 case atStart => exact ⟨[],q1,rfl,⟨rfl,.inl ⟨rfl,rfl⟩⟩,R1.out,K1.out,Wi.At.start _ _,Nat.le_refl _⟩
 case round =>
  obtain ⟨acc,qq,rfl,ho,hr,hk,ha,hlq⟩ := hrel
  have HO := hq' ho
  have HR := hq' hr
  have HK := hq' hk
  have HA := hq' ha
  have hszr := hk.size
  have hal := Nat.le_trans (ha.len Wi.sRec4_shr) hcnt
  have HM := hq' (more_any p qq wr hr)
  obtain ⟨av,cv,hve⟩ := own_form ho
  subst hve
  clear ho hr hk ha
  generalize hall : acc.all (·.2) = ob at *
  have HALL := hq' hall
  clear hall
  cases hm : Bd.sMore qq with
  | true =>
   have HN := hq' (HA.out.next Wi.sRec4_shr hm)
   have hal2 := Nat.le_trans (HN.out.len Wi.sRec4_shr) hcnt
   rw [List.length_append,List.length_singleton] at hal2
   have l2 := sInt_len qq
   have l3 := sText_len 16 (Bd.sInt qq).2
   have l4 := sText_len 64 (Bd.sText 16 (Bd.sInt qq).2).2
   have l5 := sInt_len (Bd.sText 64 (Bd.sText 16 (Bd.sInt qq).2).2).2
   have HE4 : Hid (Wi.sRec4 qq = ((⟨(Bd.sInt qq).1,(Bd.sText 16 (Bd.sInt qq).2).1,(Bd.sText 64 (Bd.sText 16 (Bd.sInt qq).2).2).1,(Bd.sInt (Bd.sText 64 (Bd.sText 16 (Bd.sInt qq).2).2).2).1 == 1⟩,(Bd.sInt (Bd.sText 64 (Bd.sText 16 (Bd.sInt qq).2).2).2).1 == Cr.flag ((Bd.sInt (Bd.sText 64 (Bd.sText 16 (Bd.sInt qq).2).2).2).1 == 1)),(Bd.sInt (Bd.sText 64 (Bd.sText 16 (Bd.sInt qq).2).2).2).2)) := rfl
   have HI2 := hq' (int_any p qq wr HR.out (by omega) (HW.out _ HK.out))
   have HT3 := hq' (fun W (hR : Rd W p (Bd.sInt qq).2) (hL : Lw W) => text_any p 16 (Bd.sInt qq).2 W hR (by omega) hL)
   have HT4 := hq' (fun W (hR : Rd W p (Bd.sText 16 (Bd.sInt qq).2).2) (hL : Lw W) => text_any p 64 (Bd.sText 16 (Bd.sInt qq).2).2 W hR (by omega) hL)
   have HI5 := hq' (fun W (hR : Rd W p (Bd.sText 64 (Bd.sText 16 (Bd.sInt qq).2).2).2) (hL : Lw W) => int_any p (Bd.sText 64 (Bd.sText 16 (Bd.sInt qq).2).2).2 W hR (by omega) hL)
   rw [HE4.out] at HN
   rw [hm] at HM
   clear hm HA HE4
   generalize (Bd.sInt (Bd.sText 64 (Bd.sText 16 (Bd.sInt qq).2).2).2).1 = g at *
   generalize (Bd.sInt (Bd.sText 64 (Bd.sText 16 (Bd.sInt qq).2).2).2).2 = q5 at *
   generalize (Bd.sText 64 (Bd.sText 16 (Bd.sInt qq).2).2).1 = vv at *
   generalize (Bd.sText 64 (Bd.sText 16 (Bd.sInt qq).2).2).2 = q4 at *
   generalize (Bd.sText 16 (Bd.sInt qq).2).1 = kk at *
   generalize (Bd.sText 16 (Bd.sInt qq).2).2 = q3 at *
   generalize (Bd.sInt qq).1 = off at *
   generalize (Bd.sInt qq).2 = q2 at *
   go_wp2_with fail
   refine HM.out.mono ?_
   rintro e w8 ⟨rfl,rfl⟩
   go_wp2_with fail
   refine HI2.out.mono ?_
   rintro e w2 ⟨rfl,h2⟩
   have O2 := hq' (ownsRow_keeps HO.out h2.2 hpl)
   have K2 := hq' (HK.out.call h2)
   have R2 := hq' h2.1
   clear h2 HM HI2 HO HK HR
   go_wp2_with fail
   refine (HT3.out _ R2.out (HW.out _ K2.out)).mono ?_
   rintro e w3 ⟨rfl,h3⟩
   have O3 := hq' (ownsRow_keeps O2.out h3.2 hpl)
   have K3 := hq' (K2.out.call h3)
   have R3 := hq' h3.1
   clear h3 HT3 O2 K2 R2
   go_wp2_with fail
   refine (HT4.out _ R3.out (HW.out _ K3.out)).mono ?_
   rintro e w4 ⟨rfl,h4⟩
   have O4 := hq' (ownsRow_keeps O3.out h4.2 hpl)
   have K4 := hq' (K3.out.call h4)
   have R4 := hq' h4.1
   clear h4 HT4 O3 K3 R3
   have hs4 := K4.out.size
   have OA := hq' (World.ownsRow.alloc O4.out (.cells #[.int .i64 off,.string ⟨kk.toArray⟩,.string ⟨vv.toArray⟩,.bool false] 67))
   have XA : Hid (Rx w p w4.heap.size (w4.alloc (.cells #[.int .i64 off,.string ⟨kk.toArray⟩,.string ⟨vv.toArray⟩,.bool false] 67)) q4 [.int .i64 off,.string ⟨kk.toArray⟩,.string ⟨vv.toArray⟩,.bool false] 67) :=
    ⟨R4.out.keep (S := fun _ => False) (Keeps.alloc _ _ _) id,Cl.new _ _ _,by have := R4.out.lt; omega,hs4,K4.out.trans (Keeps.alloc _ _ _)⟩
   have hnb : some w4.heap.size ≠ (Value.slice av acc.length cv).ownBlock := fun e => by
    have := (O4.out.lt _ e.symm).2
    omega
   go_upto_region 5 with (fail)
   clear O4 K4 R4
   generalize w4.alloc (.cells #[.int .i64 off,.string ⟨kk.toArray⟩,.string ⟨vv.toArray⟩,.bool false] 67) = wA at *
   generalize w4.heap.size = gx at *
   have HNB := hq' hnb
   clear hnb
   go_wp2_with fail
   refine (HI5.out _ XA.out.1 (HW.out _ XA.out.2.2.2.2)).mono ?_
   rintro e w5 ⟨rfl,h5⟩
   have O5 := hq' (ownsRow_keeps OA.out h5.2 hpl)
   have X5 := hq' (XA.out.call h5)
   clear h5 HI5 OA XA
   have f3 := X5.out.2.1.free 3
   have c3 := X5.out.2.1.cell 3
   simp only [g0',gs'] at c3
   have X6 : Hid (Rx w p gx (w5.setCell ⟨gx,3,none⟩ (.bool (g == 1))) q5 [.int .i64 off,.string ⟨kk.toArray⟩,.string ⟨vv.toArray⟩,.bool (g == 1)] 67) := X5.out.store 3 (.bool (g == 1))
   have O6 := hq' (ownsRow_box (j := gx) O5.out (Keeps.setCell _ _ _ _ rfl : Keeps (fun i => i = gx) w5 (w5.setCell ⟨gx,3,none⟩ (.bool (g == 1)))) HNB.out)
   go_upto_region 7 with (fail)
   clear X5 O5 f3 c3
   generalize w5.setCell ⟨gx,3,none⟩ (.bool (g == 1)) = w6 at *
   generalize hgb : (g == 1) = gb at *
   have HFL := hq' (wflag_any gb w6)
   generalize hfl : Cr.flag gb = fl at *
   obtain ⟨c0,c1,c2,c3⟩ := X6.out.2.1.cell4
   have HGB := hq' hgb
   have HFL2 := hq' hfl
   clear hgb hfl
   have HAL2 : Hid ((acc ++ [((⟨off,kk,vv,gb⟩ : Cr.Rec),g == fl)]).all (·.2) = (ob && (g == fl))) := by
    rw [Hid,List.all_append,HALL.out]; simp
   have hs6 := X6.out.2.2.2.2.size
   cases ob <;>
   ·go_wp2_with (first
     | (go_at_call 113; refine HFL.out.mono ?_; rintro e w7 ⟨rfl,rfl⟩)
     | (at_builtin; refine wpList_append_own _ rfl _ _ 34 rfl w.heap.size 67 i0 _ 4 48 Tryz.underlying34 hi hz0 hz1 hz2 rfl (by decide) _ _ _ rfl (World.ownsRow.alloc O6.out _) ⟨w6.heap.size,0,none⟩ 1 1 [.int .i64 off,.string ⟨kk.toArray⟩,.string ⟨vv.toArray⟩,.bool gb] rfl rfl (World.news_of_block (cs := #[.int .i64 off,.string ⟨kk.toArray⟩,.string ⟨vv.toArray⟩,.bool gb]) (t := 67) (fr := (0,0)) (heap_alloc_new w6 _)) (by simp [Value.oneCell']) ?_ ?_ ?_ ?_))
    ·unfold maxLen; omega
    ·omega
    ·simp; omega
    intro v' wB hownB hgB _
    have KB : Hid (Keeps (fun j => w.heap.size ≤ j) w6 wB) := (Keeps.alloc _ _ _).trans (Keeps.grown hgB (fun j hj => (O6.out.lt j hj).1))
    have OB : Hid (wB.ownsRow w.heap.size 67 4 v' (acc ++ [((⟨off,kk,vv,gb⟩ : Cr.Rec),g == fl)]).length (recCells ((acc ++ [((⟨off,kk,vv,gb⟩ : Cr.Rec),g == fl)]).map (·.1)))) := by
     rw [Hid,List.map_append,List.map_singleton,recCells_app,List.length_append]
     exact hownB
    have RB := hq' (X6.out.1.keep KB.out (by omega))
    have KPB : Hid (Kp w p wB) := show Keeps (fun k => k = p ∨ w.heap.size ≤ k) w wB from Keeps.trans X6.out.2.2.2.2 (KB.out.mono fun j _ e => .inr e)
    obtain ⟨av',cv',hve'⟩ := own_form hownB
    subst hve'
    clear hownB hgB KB c0 c1 c2 c3
    go_wp2
    go_roundw
    case rel => exact ⟨acc ++ [((⟨off,kk,vv,gb⟩ : Cr.Rec),g == fl)],q5,by rw [HAL2.out] <;> simp,OB.out,RB.out,KPB.out,HN.out,by omega⟩
    case measure => simp only [slLen]; omega
  | false =>
   have HE := HA.out.stop hm
   have HEE := hq' HE
   rw [hm] at HM
   have HC := hq' (close_any p qq wr HR.out)
   clear hm HA HE
   go_wp2_with fail
   refine HM.out.mono ?_
   rintro e w8 ⟨rfl,rfl⟩
   go_wp2_with fail
   refine HC.out.mono ?_
   rintro e w9 ⟨rfl,h9⟩
   have O9 := hq' (ownsRow_keeps HO.out h9.2 hpl)
   have K9 := hq' (HK.out.call h9)
   have R9 := hq' h9.1
   clear h9
   go_wp2
   go_ret2
   refine ⟨.slice av acc.length cv,?_,?_,?_,K9.out⟩
   ·rw [HEE.out,HALL.out]; rfl
   ·rw [HEE.out]; simp only [List.length_map]; exact O9.out
   ·rw [HEE.out]; exact R9.out
end Go.Proofs.YtbljbdjmgogknaaGreatDoor
