/-
  Wqb: texts of one proof, one behind the other.
  Conditions: none of its own.
-/
import Derived.Test.YtbljbdjmgogknaaGreatDoorZaj
set_option linter.unusedVariables false
set_option linter.unusedSimpArgs false
namespace Go.Proofs.YtbljbdjmgogknaaGreatDoor.Wi
open Bd (St bInt bText sInt sText sSign sMore sDone inR)
theorem inB_iff {n a b : Int} : inB n a b = true ↔ a ≤ n ∧ n ≤ b := by simp [inB]
theorem areB_iff {a b : Int} {l : List Int} : areB a b l = true ↔ ∀ x ∈ l,a ≤ x ∧ x ≤ b := by
 unfold areB
 rw [List.all_eq_true]
 exact ⟨fun h x hx => inB_iff.1 (h x hx),fun h x hx => inB_iff.2 (h x hx)⟩
theorem unitB_iff {n : Int} : unitB n = true ↔ (0 ≤ n ∧ n ≤ 5) ∨ (11 ≤ n ∧ n ≤ 14) := by simp [unitB,inB]
theorem sInts_of {l : List Int} (h : ∀ x ∈ l,inR x) (r : List UInt8) : sInts (listB (encInts l) ++ r,false) = (l,(r,false)) := by
 have e : listB (encInts l) ++ r = 108::((l.map bInt).flatten ++ (101::r)) := by simp [listB,encInts]
 unfold sInts
 rw [e,Bd.sSign_of,sAll_of (e := bInt) l (fun x hx r => ⟨Bd.sMore_int x r,Bd.sInt_of r (h x hx)⟩) (101::r) (more_e r)]
 simp [Bd.sSign_of]
theorem sRec4_of {x : Cr.Rec} (hx : Cr.isRec x = true) (ho : inR x.off) (r : List UInt8) : sRec4 (encRec x ++ r,false) = ((x,true),(r,false)) := by
 simp only [Cr.isRec,Bool.and_eq_true,decide_eq_true_eq] at hx
 obtain ⟨h1,h2,_⟩ := hx
 have e : encRec x ++ r = bInt x.off ++ (bText x.key ++ (bText x.val ++ (bInt (Cr.flag x.gone) ++ r))) := by simp [encRec]
 unfold sRec4
 rw [e]
 simp only [Bd.sInt_of _ ho,Bd.sText_of (most := 16) _ _ (show (x.key.length : Int) ≤ 16 by omega) (by omega),Bd.sText_of (most := 64) _ _ (show (x.val.length : Int) ≤ 64 by omega) (by omega),Bd.sInt_of _ (Cr.inR_flag _),Cr.flag_gone]
 simp
theorem more_rec (x : Cr.Rec) (r : List UInt8) : sMore (encRec x ++ r,false) = true := by
 have e : encRec x ++ r = bInt x.off ++ ((bText x.key ++ (bText x.val ++ bInt (Cr.flag x.gone))) ++ r) := by simp [encRec]
 rw [e]
 exact Bd.sMore_int _ _
theorem sRecs_of {l : List Cr.Rec} (h : ∀ x ∈ l,Cr.isRec x = true ∧ inR x.off) (r : List UInt8) : sRecs (encRecs l ++ r,false) = ((l,true),(r,false)) := by
 have e : encRecs l ++ r = 108::(((l.map fun x => (x,true)).map fun y : Cr.Rec × Bool => encRec y.1).flatten ++ (101::r)) := by simp [listB,encRecs,List.map_map,Function.comp_def]
 unfold sRecs
 rw [e,Bd.sSign_of,sAll_of (e := fun y : Cr.Rec × Bool => encRec y.1) (l.map fun x => (x,true)) (fun y hy r => by
  obtain ⟨x,hx,rfl⟩ := List.mem_map.1 hy
  exact ⟨more_rec x r,sRec4_of (h x hx).1 (h x hx).2 r⟩) (101::r) (more_e r)]
 simp [Bd.sSign_of,List.map_map,Function.comp_def]
theorem inR_of {n a b : Int} (h : a ≤ n ∧ n ≤ b) (ha : -9223372036854775808 ≤ a) (hb : b ≤ 9223372036854775807) : inR n := ⟨by omega,by omega⟩
theorem rising_all {l : List Cr.Rec} : ∀ {p : Int},risingB p l = true → ∀ x ∈ l,(0 ≤ x.off ∧ x.off ≤ 1099511627776) ∧ Cr.isRec x = true := by
 induction l with
 | nil => intro p _ x hx; cases hx
 | cons y l ih =>
  intro p h x hx
  simp only [risingB,Bool.and_eq_true] at h
  obtain ⟨h1,h2,h3,h4⟩ := h
  rcases List.mem_cons.1 hx with rfl | hx
  ·refine ⟨inB_iff.1 h1,?_⟩
   simpa [Cr.fits] using h2
  ·exact ih h4 x hx
theorem fits_all {l : List Cr.Rec} (h : Cr.fits l = true) : l.length ≤ 8 ∧ ∀ x ∈ l,Cr.isRec x = true := by
 simp only [Cr.fits,Bool.and_eq_true,decide_eq_true_eq,List.all_eq_true] at h
 exact ⟨h.2.1,h.2.2⟩
theorem reqB_parts {q : Req} (h : reqB q = true) : (1 ≤ q.client ∧ q.client ≤ 4) ∧ (1 ≤ q.kind ∧ q.kind ≤ 8) ∧ (0 ≤ q.n ∧ q.n ≤ 1099511627776) ∧ (0 ≤ q.part ∧ q.part ≤ 1099511627776) ∧ (0 ≤ q.seq ∧ q.seq ≤ 1099511627776) ∧ (0 ≤ q.max ∧ q.max ≤ 1099511627776) ∧ (0 ≤ q.gen ∧ q.gen ≤ 1099511627776) ∧
  (-1099511627776 ≤ q.off ∧ q.off ≤ 1099511627776) ∧ q.group.length ≤ 8 ∧ q.member.length ≤ 8 ∧ q.recs.length ≤ 8 ∧ ∀ x ∈ q.recs,x.off = 0 ∧ Cr.isRec x = true := by
 simp only [reqB,Bool.and_eq_true,inB_iff,areB_iff,List.mem_cons,List.not_mem_nil,or_false,forall_eq_or_imp,forall_eq,decide_eq_true_eq,List.all_eq_true,Bool.or_eq_true] at h
 obtain ⟨h1,h2,⟨h3,h4,h5,h6,h7⟩,h8,h9,h10,h11,h12⟩ := h
 refine ⟨h1,h2,h3,h4,h5,h6,h7,h8,h10,h11,?_,?_⟩
 ·rcases h12 with h | h
  ·omega
  ·exact (fits_all h).1
 ·intro x hx
  refine ⟨h9 x hx,?_⟩
  rcases h12 with h | h
  ·rw [List.length_eq_zero_iff.1 h] at hx; cases hx
  ·exact (fits_all h).2 x hx
theorem respB_parts {a : Resp} (h : respB a = true) : (1 ≤ a.client ∧ a.client ≤ 4) ∧ (0 ≤ a.code ∧ a.code ≤ 99) ∧ (0 ≤ a.n ∧ a.n ≤ 1099511627776) ∧ (0 ≤ a.off ∧ a.off ≤ 1099511627776) ∧ (0 ≤ a.high ∧ a.high ≤ 1099511627776) ∧ (0 ≤ a.gen ∧ a.gen ≤ 1099511627776) ∧
  a.parts.length ≤ 4 ∧ (∀ x ∈ a.parts,0 ≤ x ∧ x ≤ 3) ∧ a.recs.length ≤ 16 ∧ ∀ x ∈ a.recs,(0 ≤ x.off ∧ x.off ≤ 1099511627776) ∧ Cr.isRec x = true := by
 simp only [respB,Bool.and_eq_true,inB_iff,areB_iff,List.mem_cons,List.not_mem_nil,or_false,forall_eq_or_imp,forall_eq,decide_eq_true_eq] at h
 obtain ⟨h1,h2,⟨h3,h4,h5,h6⟩,h7,h8,h9,h10⟩ := h
 exact ⟨h1,h2,h3,h4,h5,h6,h7,h8,h9,rising_all h10⟩
theorem placeB_parts {m : Msg} (h : placeB m = true) : (0 ≤ m.pep ∧ m.pep ≤ 1073741824) ∧ (0 ≤ m.learner ∧ m.learner ≤ 5) ∧ m.chain.length ≤ 5 ∧ (∀ x ∈ m.chain,1 ≤ x ∧ x ≤ 5) ∧ m.lives.length ≤ 5 ∧ ∀ x ∈ m.lives,(1 ≤ x.1 ∧ x.1 ≤ 5) ∧ (0 ≤ x.2 ∧ x.2 ≤ 1073741824) := by
 simp only [placeB,Bool.and_eq_true,inB_iff,areB_iff,decide_eq_true_eq,List.all_eq_true,lifeB] at h
 obtain ⟨h1,h2,h3,h4,h5,h6⟩ := h
 exact ⟨h1,h2,h3,h4,h5,h6⟩
theorem isNum_iff {n : Int} : Cr.isNum n = true ↔ 0 ≤ n ∧ n ≤ 1099511627776 := by simp [Cr.isNum]
theorem row_all {l : List Slot} : ∀ {p : Option Slot},rowB p l = true → ∀ y ∈ l,(0 ≤ y.1 ∧ y.1 ≤ 1099511627776) ∧ (0 ≤ y.2.1 ∧ y.2.1 ≤ 1099511627776) ∧ (0 ≤ y.2.2 ∧ y.2.2 ≤ 1099511627776) := by
 induction l with
 | nil => intro p _ x hx; cases hx
 | cons y l ih =>
  intro p h x hx
  simp only [rowB,slotB,Bool.and_eq_true,isNum_iff] at h
  obtain ⟨⟨h1,h2,h3,_⟩,_,h4⟩ := h
  rcases List.mem_cons.1 hx with rfl | hx
  ·exact ⟨h1,h2,h3⟩
  ·exact ih h4 x hx
theorem seens_all {l : List Seen} : ∀ {p : Option Int},seensB p l = true → ∀ x ∈ l,(0 ≤ x.1 ∧ x.1 ≤ 1099511627776) ∧ x.2.length ≤ 5 ∧ ∀ y ∈ x.2,(0 ≤ y.1 ∧ y.1 ≤ 1099511627776) ∧ (0 ≤ y.2.1 ∧ y.2.1 ≤ 1099511627776) ∧ (0 ≤ y.2.2 ∧ y.2.2 ≤ 1099511627776) := by
 induction l with
 | nil => intro p _ x hx; cases hx
 | cons y l ih =>
  intro p h x hx
  simp only [seensB,slotsB,Bool.and_eq_true,isNum_iff,decide_eq_true_eq] at h
  obtain ⟨h1,_,⟨h2,_,h3⟩,h4⟩ := h
  rcases List.mem_cons.1 hx with rfl | hx
  ·exact ⟨h1,h3,row_all h2⟩
  ·exact ih h4 x hx
theorem inR_num {n : Int} (h : 0 ≤ n ∧ n ≤ 1099511627776) : inR n := inR_of h (by omega) (by omega)
theorem sSlot_of {y : Slot} (h1 : inR y.1) (h2 : inR y.2.1) (h3 : inR y.2.2) (r : List UInt8) : sSlot (encSlot y ++ r,false) = (y,(r,false)) := by
 have e : encSlot y ++ r = 108::(bInt y.1 ++ (bInt y.2.1 ++ (bInt y.2.2 ++ (101::r)))) := by simp [encSlot,listB]
 unfold sSlot
 rw [e]
 simp only [Bd.sSign_of,Bd.sInt_of _ h1,Bd.sInt_of _ h2,Bd.sInt_of _ h3]
theorem more_list (b r : List UInt8) : sMore (listB b ++ r,false) = true := by simp [sMore,listB]
theorem sSeen_of {x : Seen} (h1 : inR x.1) (h2 : ∀ y ∈ x.2,inR y.1 ∧ inR y.2.1 ∧ inR y.2.2) (r : List UInt8) : sSeen (encSeen x ++ r,false) = (x,(r,false)) := by
 have e : encSeen x ++ r = 108::(bInt x.1 ++ ((x.2.map encSlot).flatten ++ (101::r))) := by simp [encSeen,listB]
 unfold sSeen
 rw [e]
 simp only [Bd.sSign_of,Bd.sInt_of _ h1]
 rw [sAll_of (e := encSlot) x.2 (fun y hy r => ⟨more_list _ _,sSlot_of (h2 y hy).1 (h2 y hy).2.1 (h2 y hy).2.2 r⟩) (101::r) (more_e r)]
 simp only [Bd.sSign_of]
theorem tableB_all {t : List Seen} (h : tableB t = true) : t.length ≤ 64 ∧ ∀ x ∈ t,(0 ≤ x.1 ∧ x.1 ≤ 1099511627776) ∧ x.2.length ≤ 5 ∧ ∀ y ∈ x.2,(0 ≤ y.1 ∧ y.1 ≤ 1099511627776) ∧ (0 ≤ y.2.1 ∧ y.2.1 ≤ 1099511627776) ∧ (0 ≤ y.2.2 ∧ y.2.2 ≤ 1099511627776) := by
 simp only [tableB,Bool.and_eq_true,decide_eq_true_eq] at h
 exact ⟨h.2,seens_all h.1⟩
theorem decTable_enc {t : List Seen} (h : tableB t = true) : decTable (encTable t) = some t := by
 obtain ⟨_,ha⟩ := tableB_all h
 have e : encTable t = 108::((t.map encSeen).flatten ++ [101]) := by simp [encTable,listB]
 unfold decTable
 rw [e]
 simp only [Bd.sSign_of]
 rw [sAll_of (e := encSeen) t (fun x hx r => ⟨more_list _ _,sSeen_of (inR_num (ha x hx).1) (fun y hy => ⟨inR_num ((ha x hx).2.2 y hy).1,inR_num ((ha x hx).2.2 y hy).2.1,inR_num ((ha x hx).2.2 y hy).2.2⟩) r⟩) [101] (more_e [])]
 simp [Bd.sSign_of,sDone,h]
/-! ### How long -/
theorem itoa_len {n : Int} (h0 : -10000000000000 < n) (h1 : n < 10000000000000) : (Lib.itoa n).length ≤ 14 := by
 by_cases hn : n < 0
 ·have e : Lib.itoa n = 45::Lib.decDigits n.natAbs := by unfold Lib.itoa; rw [if_pos hn]
  have hd := Cr.nDigits_le_pow 13 n.natAbs (by decide) (by have := (show (10 : Nat) ^ 13 = 10000000000000 by decide); omega)
  rw [e,List.length_cons,Lib.decDigits_length]
  omega
 ·have := (Cr.bInt_len (n := n) (by omega) h1).2
  simp only [bInt,List.length_cons,List.length_append,List.length_nil] at this
  omega
theorem bInt_le {n : Int} (h0 : -10000000000000 < n) (h1 : n < 10000000000000) : (bInt n).length ≤ 16 := by
 have := itoa_len h0 h1
 simp only [bInt,List.length_cons,List.length_append,List.length_nil]
 omega
theorem bText_le {t : List UInt8} (h : t.length < 100000) : (bText t).length ≤ 6 + t.length := by
 have e : Lib.itoa (t.length : Int) = Lib.decDigits t.length := by unfold Lib.itoa; rw [if_neg (by omega)]; rfl
 have hd := Cr.nDigits_le_pow 5 t.length (by decide) (by omega)
 simp only [bText,List.length_cons,List.length_append,e,Lib.decDigits_length]
 omega
theorem bText_8 {t : List UInt8} (h : t.length ≤ 64) : (bText t).length ≤ 70 := by
 have := bText_le (t := t) (by omega)
 omega
theorem flat_le {α : Type} {e : α → List UInt8} {k : Nat} (l : List α) (h : ∀ x ∈ l,(e x).length ≤ k) : ((l.map e).flatten).length ≤ l.length * k := by
 induction l with
 | nil => simp
 | cons x l ih =>
  have h1 := h x (by simp)
  have h2 := ih (fun y hy => h y (List.mem_cons_of_mem _ hy))
  simp only [List.map_cons,List.flatten_cons,List.length_append,List.length_cons,Nat.succ_mul]
  omega
theorem listB_len (b : List UInt8) : (listB b).length = b.length + 2 := by simp [listB]
theorem encRec_le {x : Cr.Rec} (hx : Cr.isRec x = true) (h0 : 0 ≤ x.off) (h1 : x.off ≤ 1099511627776) : (encRec x).length ≤ 130 := by
 have := Cr.encRec_len hx h0 (by omega)
 simp only [Cr.encRec,encRec,List.length_cons,List.length_append,List.length_nil] at this ⊢
 omega
theorem encSlot_le {y : Slot} (h1 : 0 ≤ y.1 ∧ y.1 ≤ 1099511627776) (h2 : 0 ≤ y.2.1 ∧ y.2.1 ≤ 1099511627776) (h3 : 0 ≤ y.2.2 ∧ y.2.2 ≤ 1099511627776) : (encSlot y).length ≤ 47 := by
 have a := (Cr.bInt_len (n := y.1) (by omega) (by omega)).2
 have b := (Cr.bInt_len (n := y.2.1) (by omega) (by omega)).2
 have c := (Cr.bInt_len (n := y.2.2) (by omega) (by omega)).2
 simp only [encSlot,listB_len,List.length_append]
 omega
theorem encTable_le {t : List Seen} (h : tableB t = true) : (encTable t).length ≤ 16130 := by
 obtain ⟨hl,ha⟩ := tableB_all h
 have := flat_le (e := encSeen) (k := 252) t (fun x hx => by
  obtain ⟨h1,h2,h3⟩ := ha x hx
  have a := (Cr.bInt_len (n := x.1) (by omega) (by omega)).2
  have b := flat_le (e := encSlot) (k := 47) x.2 (fun y hy => encSlot_le (h3 y hy).1 (h3 y hy).2.1 (h3 y hy).2.2)
  simp only [encSeen,listB_len,List.length_append]
  omega)
 simp only [encTable,listB_len]
 omega
theorem good_first {m : Msg} (h : good m = true) : (1 ≤ m.kind ∧ m.kind ≤ 9) ∧ (0 ≤ m.frm ∧ m.frm ≤ 14) ∧ (0 ≤ m.to ∧ m.to ≤ 14) ∧ (0 ≤ m.part ∧ m.part ≤ 3) ∧ (0 ≤ m.ep ∧ m.ep ≤ 1073741824) ∧ (0 ≤ m.life ∧ m.life ≤ 1073741824) ∧ (-1 ≤ m.off ∧ m.off ≤ 1099511627776) ∧ (-1 ≤ m.high ∧ m.high ≤ 1099511627776) ∧ m = only m ∧ lastB m = true := by
 simp only [good,first,Bool.and_eq_true,inB_iff,unitB_iff,areB_iff,List.mem_cons,List.not_mem_nil,or_false,forall_eq_or_imp,forall_eq,same_iff] at h
 obtain ⟨⟨h1,h2,h3,h4,⟨h5,h6⟩,⟨h7,h8⟩,h9⟩,h10⟩ := h
 exact ⟨h1,by omega,by omega,h4,h5,h6,h7,h8,h9,h10⟩
theorem tailL_le {m : Msg} (h : good m = true) : (tailL m).flatten.length ≤ 16200 := by
 obtain ⟨hk,_,_,_,_,hl,ho,hh,_,hb⟩ := good_first h
 unfold tailL
 unfold lastB at hb
 by_cases k1 : m.kind = 1 ∨ m.kind = 7
 ·rw [if_pos k1] at hb ⊢
  obtain ⟨p1,p2,p3,p4,p5,p6,p7,p8,p9,p10,p11,p12⟩ := reqB_parts hb
  have r := flat_le (e := encRec) (k := 130) m.req.recs (fun x hx => encRec_le (p12 x hx).2 (by rw [(p12 x hx).1]; decide) (by rw [(p12 x hx).1]; decide))
  have n := flat_le (e := bInt) (k := 16) (reqNumsL m.req) (fun x hx => by
   simp only [reqNumsL,List.mem_cons,List.not_mem_nil,or_false] at hx
   exact bInt_le (by omega) (by omega))
  have g := bText_8 (t := m.req.group) (by omega)
  have g2 := bText_8 (t := m.req.member) (by omega)
  simp only [reqNumsL,List.length_cons,List.length_nil] at n
  simp only [reqNumsL,List.flatten_append,List.length_append,List.flatten_cons,List.flatten_nil,List.length_nil,encRecs,listB_len]
  omega
 ·rw [if_neg k1] at hb ⊢
  by_cases k2 : m.kind = 2
  ·rw [if_pos k2] at hb ⊢
   obtain ⟨p1,p2,p3,p4,p5,p6,p7,p8,p9,p10⟩ := respB_parts hb
   have r := flat_le (e := encRec) (k := 130) m.resp.recs (fun x hx => encRec_le (p10 x hx).2 (p10 x hx).1.1 (p10 x hx).1.2)
   have n := flat_le (e := bInt) (k := 16) (respNumsL m.resp) (fun x hx => by
    simp only [respNumsL,List.mem_cons,List.not_mem_nil,or_false] at hx
    exact bInt_le (by omega) (by omega))
   have q := flat_le (e := bInt) (k := 16) m.resp.parts (fun x hx => by have := p8 x hx; exact bInt_le (by omega) (by omega))
   simp only [respNumsL,List.length_cons,List.length_nil] at n
   simp only [respNumsL,List.flatten_append,List.length_append,List.flatten_cons,List.flatten_nil,List.length_nil,encRecs,encInts,listB_len]
   omega
  ·rw [if_neg k2] at hb ⊢
   have bl := bInt_le (n := m.life) (by omega) (by omega)
   have bo := bInt_le (n := m.off) (by omega) (by omega)
   have bh := bInt_le (n := m.high) (by omega) (by omega)
   by_cases k3 : m.kind = 3
   ·rw [if_pos k3]; simp only [List.flatten_cons,List.flatten_nil,List.length_append,List.length_nil]; omega
   ·rw [if_neg k3]
    by_cases k4 : m.kind = 4
    ·rw [if_pos k4] at hb ⊢
     obtain ⟨p1,p2,p3,p4,p5,p6⟩ := placeB_parts hb
     have a := bInt_le (n := m.pep) (by omega) (by omega)
     have b := bInt_le (n := m.learner) (by omega) (by omega)
     have c := flat_le (e := bInt) (k := 16) m.chain (fun x hx => by have := p4 x hx; exact bInt_le (by omega) (by omega))
     have fl : (flatLives m.lives).length = m.lives.length * 2 := by
      unfold flatLives
      induction m.lives with
      | nil => rfl
      | cons x l ih => simp only [List.flatMap_cons,List.length_append,List.length_cons,List.length_nil] at ih ⊢; omega
     have d := flat_le (e := bInt) (k := 16) (flatLives m.lives) (fun x hx => by
      obtain ⟨y,hy,hx⟩ := List.mem_flatMap.1 hx
      have := p6 y hy
      simp only [List.mem_cons,List.not_mem_nil,or_false] at hx
      exact bInt_le (by omega) (by omega))
     simp only [List.length_append,List.flatten_cons,List.flatten_nil,List.length_nil,encInts,listB_len]
     omega
    ·rw [if_neg k4] at hb ⊢
     by_cases k5 : m.kind = 5
     ·rw [if_pos k5] at hb ⊢
      obtain ⟨_,e1,e2⟩ := Cr.enc_len hb
      have := bText_le (t := Cr.enc m.batch) (by omega)
      simp only [List.flatten_cons,List.flatten_nil,List.length_append,List.length_nil]
      omega
     ·rw [if_neg k5] at hb ⊢
      by_cases k6 : m.kind = 6
      ·rw [if_pos k6]; simp only [List.flatten_cons,List.flatten_nil,List.length_append,List.length_nil]; omega
      ·rw [if_neg k6]
       by_cases k8 : m.kind = 8
       ·rw [if_pos k8] at hb ⊢
        have e1 := encTable_le hb
        have := bText_le (t := encTable m.table) (by omega)
        simp only [List.flatten_cons,List.flatten_nil,List.length_append,List.length_nil]
        omega
       ·rw [if_neg k8]
        by_cases k9 : m.kind = 9
        ·rw [if_pos k9]; simp only [List.flatten_cons,List.flatten_nil,List.length_append,List.length_nil]; omega
        ·omega
theorem enc_le {m : Msg} (h : good m = true) : (enc m).length ≤ 16384 := by
 have ht := tailL_le h
 obtain ⟨hk,hf,hto,hp,he,hl,ho,hh,_,hb⟩ := good_first h
 have a := bInt_le (n := m.kind) (by omega) (by omega)
 have b := bInt_le (n := m.frm) (by omega) (by omega)
 have c := bInt_le (n := m.to) (by omega) (by omega)
 have d := bInt_le (n := m.part) (by omega) (by omega)
 have e := bInt_le (n := m.ep) (by omega) (by omega)
 simp only [enc,fieldsL,listB_len,List.flatten_append,List.length_append,headL]
 split <;> simp only [List.map_cons,List.map_nil,List.flatten_cons,List.flatten_nil,List.length_append,List.length_nil] <;> omega
/-! ### What is written is read -/
theorem sReq_of {q : Req} (h : reqB q = true) (r : List UInt8) : sReq (((reqNumsL q).map bInt ++ [bText q.group,bText q.member,encRecs q.recs]).flatten ++ r,false) = ((q,true),(r,false)) := by
 obtain ⟨p1,p2,p3,p4,p5,p6,p7,p8,p9,p10,p11,p12⟩ := reqB_parts h
 have e : ((reqNumsL q).map bInt ++ [bText q.group,bText q.member,encRecs q.recs]).flatten ++ r = bInt q.client ++ (bInt q.n ++ (bInt q.kind ++ (bInt q.part ++ (bInt q.seq ++ (bInt q.off ++ (bInt q.max ++ (bInt q.gen ++ (bText q.group ++ (bText q.member ++ (encRecs q.recs ++ r)))))))))) := by simp [reqNumsL]
 unfold sReq
 rw [e]
 simp only [Bd.sInt_of _ (inR_of p1 (by omega) (by omega)),Bd.sInt_of _ (inR_of p2 (by omega) (by omega)),Bd.sInt_of _ (inR_num p3),Bd.sInt_of _ (inR_num p4),Bd.sInt_of _ (inR_num p5),Bd.sInt_of _ (inR_num p6),Bd.sInt_of _ (inR_num p7),Bd.sInt_of _ (inR_of p8 (by omega) (by omega)),
  Bd.sText_of (most := 8) _ _ (show (q.group.length : Int) ≤ 8 by omega) (by omega),Bd.sText_of (most := 8) _ _ (show (q.member.length : Int) ≤ 8 by omega) (by omega),
  sRecs_of (fun x hx => ⟨(p12 x hx).2,by rw [(p12 x hx).1]; exact ⟨by decide,by decide⟩⟩)]
theorem sResp_of {a : Resp} (h : respB a = true) (r : List UInt8) : sResp (((respNumsL a).map bInt ++ [listB (encInts a.parts),encRecs a.recs]).flatten ++ r,false) = ((a,true),(r,false)) := by
 obtain ⟨p1,p2,p3,p4,p5,p6,p7,p8,p9,p10⟩ := respB_parts h
 have e : ((respNumsL a).map bInt ++ [listB (encInts a.parts),encRecs a.recs]).flatten ++ r = bInt a.client ++ (bInt a.n ++ (bInt a.code ++ (bInt a.off ++ (bInt a.high ++ (bInt a.gen ++ (listB (encInts a.parts) ++ (encRecs a.recs ++ r))))))) := by simp [respNumsL]
 unfold sResp
 rw [e]
 simp only [Bd.sInt_of _ (inR_of p1 (by omega) (by omega)),Bd.sInt_of _ (inR_of p2 (by omega) (by omega)),Bd.sInt_of _ (inR_num p3),Bd.sInt_of _ (inR_num p4),Bd.sInt_of _ (inR_num p5),Bd.sInt_of _ (inR_num p6),
  sInts_of (fun x hx => inR_of (p8 x hx) (by omega) (by omega)),sRecs_of (fun x hx => ⟨(p10 x hx).2,inR_num (p10 x hx).1⟩)]
theorem sPlace_of {m : Msg} (h : placeB m = true) (r : List UInt8) : sPlace ([bInt m.pep,listB (encInts m.chain),bInt m.learner,listB (encInts (flatLives m.lives))].flatten ++ r,false) = (((m.pep,m.chain,m.learner,m.lives),true),(r,false)) := by
 obtain ⟨p1,p2,p3,p4,p5,p6⟩ := placeB_parts h
 have e : [bInt m.pep,listB (encInts m.chain),bInt m.learner,listB (encInts (flatLives m.lives))].flatten ++ r = bInt m.pep ++ (listB (encInts m.chain) ++ (bInt m.learner ++ (listB (encInts (flatLives m.lives)) ++ r))) := by simp
 have hfl : ∀ x ∈ flatLives m.lives,inR x := fun x hx => by
  obtain ⟨y,hy,hx⟩ := List.mem_flatMap.1 hx
  have := p6 y hy
  simp only [List.mem_cons,List.not_mem_nil,or_false] at hx
  exact ⟨by omega,by omega⟩
 unfold sPlace
 rw [e]
 simp only [Bd.sInt_of _ (inR_of p1 (by omega) (by omega)),Bd.sInt_of _ (inR_of p2 (by omega) (by omega)),sInts_of (fun x hx => inR_of (p4 x hx) (by omega) (by omega)),sInts_of hfl,(flat_pairs m.lives).1,(flat_pairs m.lives).2,if_true]
def headM (m : Msg) : Msg := { zMsg with kind := m.kind,frm := m.frm,«to» := m.to,part := if 4 ≤ m.kind then m.part else 0,ep := if 4 ≤ m.kind then m.ep else 0 }
theorem sHead_of {m : Msg} (h : good m = true) (r : List UInt8) : sHead ((headL m).flatten ++ r,false) = (headM m,(r,false)) := by
 obtain ⟨hk,hf,hto,hp,he,hl,ho,hh,_,hb⟩ := good_first h
 unfold sHead headL headM
 by_cases k4 : 4 ≤ m.kind
 ·have e : ([m.kind,m.frm,m.to].map bInt ++ [m.part,m.ep].map bInt).flatten ++ r = bInt m.kind ++ (bInt m.frm ++ (bInt m.to ++ (bInt m.part ++ (bInt m.ep ++ r)))) := by simp
  simp only [if_pos k4]
  rw [e]
  simp only [Bd.sInt_of _ (inR_of hk (by omega) (by omega)),Bd.sInt_of _ (inR_of hf (by omega) (by omega)),Bd.sInt_of _ (inR_of hto (by omega) (by omega)),Bd.sInt_of _ (inR_of hp (by omega) (by omega)),Bd.sInt_of _ (inR_of he (by omega) (by omega)),if_pos k4]
 ·have e : ([m.kind,m.frm,m.to].map bInt ++ []).flatten ++ r = bInt m.kind ++ (bInt m.frm ++ (bInt m.to ++ r)) := by simp
  simp only [if_neg k4]
  rw [e]
  simp only [Bd.sInt_of _ (inR_of hk (by omega) (by omega)),Bd.sInt_of _ (inR_of hf (by omega) (by omega)),Bd.sInt_of _ (inR_of hto (by omega) (by omega)),if_neg k4]
  rfl
theorem sTail_of {m : Msg} (h : good m = true) (r : List UInt8) : sTail (headM m) ((tailL m).flatten ++ r,false) = ((m,true),(r,false)) := by
 obtain ⟨hk,hf,hto,hp,he,hl,ho,hh,hon,hb⟩ := good_first h
 obtain ⟨kind,frm,tu,prt,ep,off,high,life,pep,chain,learner,lives,batch,table,req,resp⟩ := m
 unfold tailL
 unfold lastB at hb
 unfold sTail headM
 simp only at *
 by_cases k1 : kind = 1 ∨ kind = 7
 ·simp only [if_pos k1] at hb ⊢
  rw [sReq_of hb]
  rcases k1 with rfl | rfl <;> exact Prod.ext (Prod.ext (Eq.trans (by simp [only,zMsg]) hon.symm) rfl) rfl
 ·simp only [if_neg k1] at hb ⊢
  by_cases k2 : kind = 2
  ·simp only [if_pos k2] at hb ⊢
   rw [sResp_of hb]
   subst k2
   exact Prod.ext (Prod.ext (Eq.trans (by simp [only,zMsg]) hon.symm) rfl) rfl
  ·simp only [if_neg k2] at hb ⊢
   by_cases k3 : kind = 3
   ·simp only [if_pos k3] at hb ⊢
    rw [show [bInt life].flatten ++ r = bInt life ++ r by simp,Bd.sInt_of _ (inR_of hl (by omega) (by omega))]
    subst k3
    exact Prod.ext (Prod.ext (Eq.trans (by simp [only,zMsg]) hon.symm) rfl) rfl
   ·simp only [if_neg k3] at hb ⊢
    by_cases k4 : kind = 4
    ·simp only [if_pos k4] at hb ⊢
     have := sPlace_of hb r
     simp only at this
     rw [this]
     subst k4
     exact Prod.ext (Prod.ext (Eq.trans (by simp [only,zMsg]) hon.symm) rfl) rfl
    ·simp only [if_neg k4] at hb ⊢
     by_cases k5 : kind = 5
     ·simp only [if_pos k5] at hb ⊢
      obtain ⟨_,e1,e2⟩ := Cr.enc_len hb
      rw [show [bText (Cr.enc batch)].flatten ++ r = bText (Cr.enc batch) ++ r by simp,Bd.sText_of (most := 16384) _ _ (by omega) (by omega),Cr.dec_enc hb]
      subst k5
      exact Prod.ext (Prod.ext (Eq.trans (by simp [only,zMsg]) hon.symm) rfl) rfl
     ·simp only [if_neg k5] at hb ⊢
      by_cases k6 : kind = 6
      ·simp only [if_pos k6] at hb ⊢
       rw [show [bInt off,bInt high].flatten ++ r = bInt off ++ (bInt high ++ r) by simp,Bd.sInt_of _ (inR_of ho (by omega) (by omega)),Bd.sInt_of _ (inR_of hh (by omega) (by omega))]
       subst k6
       exact Prod.ext (Prod.ext (Eq.trans (by simp [only,zMsg]) hon.symm) rfl) rfl
      ·simp only [if_neg k6] at hb ⊢
       by_cases k8 : kind = 8
       ·simp only [if_pos k8] at hb ⊢
        have e1 := encTable_le hb
        rw [show [bInt off,bText (encTable table)].flatten ++ r = bInt off ++ (bText (encTable table) ++ r) by simp,Bd.sInt_of _ (inR_of ho (by omega) (by omega)),Bd.sText_of (most := 16384) _ _ (by omega) (by omega),decTable_enc hb]
        subst k8
        exact Prod.ext (Prod.ext (Eq.trans (by simp [only,zMsg]) hon.symm) rfl) rfl
       ·simp only [if_neg k8] at hb ⊢
        by_cases k9 : kind = 9
        ·simp only [if_pos k9] at hb ⊢
         rw [show [bInt off].flatten ++ r = bInt off ++ r by simp,Bd.sInt_of _ (inR_of ho (by omega) (by omega))]
         subst k9
         exact Prod.ext (Prod.ext (Eq.trans (by simp [only,zMsg]) hon.symm) rfl) rfl
        ·omega
theorem sMsg_of {m : Msg} (h : good m = true) (r : List UInt8) : sMsg ((fieldsL m).flatten ++ r,false) = ((m,true),(r,false)) := by
 have e : (fieldsL m).flatten ++ r = (headL m).flatten ++ ((tailL m).flatten ++ r) := by simp [fieldsL]
 unfold sMsg
 rw [e,sHead_of h,sTail_of h]
end Go.Proofs.YtbljbdjmgogknaaGreatDoor.Wi
