/-
  Gf / Gd / Ge / Gg / Gj / Wqa: texts of one proof, one behind the other.
  Conditions: none of its own.
-/
import Derived.Test.YtbljbdjmgogknaaGreatDoorZai
set_option linter.unusedVariables false
set_option linter.unusedSimpArgs false
set_option maxHeartbeats 3200000
set_option maxRecDepth 20000
namespace Go.Proofs.YtbljbdjmgogknaaGreatDoor
open Go.RowKit
theorem beat_ok {t n : Int} (h0 : 0 ≤ t) (h5 : t ≤ 5) (n0 : 0 ≤ n) (n1 : n ≤ 1073741824) : MsgOk (beatM 1 t n) := by
 have z : Bd.inR 0 := ⟨by decide,by decide⟩
 constructor
 ·intro x hx
  simp only [beatM,Wi.zReq,Wi.zResp,List.mem_cons,List.not_mem_nil,or_false] at hx
  unfold Bd.inR
  omega
 ·exact ⟨by simp [beatM],by simp [beatM]⟩
 ·exact ⟨by simp [beatM],by simp [beatM]⟩
 ·exact ⟨z,z,z,z,z,by simp [beatM,Wi.zBatch],by simp [beatM,Wi.zBatch]⟩
 ·exact ⟨by simp [beatM],by simp [beatM]⟩
 ·exact ⟨by simp [beatM,Wi.zReq],by simp [beatM,Wi.zReq],by simp [beatM,Wi.zReq],by simp [beatM,Wi.zReq]⟩
 ·exact ⟨by simp [beatM,Wi.zResp],by simp [beatM,Wi.zResp]⟩
 ·exact ⟨by simp [beatM,Wi.zResp],by simp [beatM,Wi.zResp]⟩
theorem bagPut_no (cs : List Value) (hlen : cs.length = 38) (B pb : Nat) (lv : Value) (l : List Item) (w : World) (h : BagW w B pb lv l) (hB : B ≤ w.heap.size)
  (HE : ∀ W,Below w.heap.size w W → Calls Tryz.prog 23 #[.agg cs.toArray] W fun e w' => e = .returned (.tuple #[.string ⟨#[]⟩,.int .i64 1]) ∧ Below W.heap.size W w') :
  Calls Tryz.prog 10 #[.pointer (some ⟨pb,0,none⟩),.agg cs.toArray] w fun e w' => e = .returned (.int .i64 1) ∧ BagW w' B pb lv l ∧ Below w.heap.size w w' := by
 have H0 := hq' h
 have HEE := hq' HE
 have HIL : Hid ((Tryz.prog.info? 44).map (·.size) = some cs.length) := by rw [Hid,hlen]; kernel_rfl
 clear h HE hlen
 go_enter Tryz.func10,Tryz.ntmps10
 obtain ⟨w1,hw1,CA,B1⟩ := oneBox (w := w) cs 44
 have HW1 := hq' hw1
 clear hw1
 go_upto_region 3 with (fail)
 first | rw [HW1.out] | skip
 clear HW1
 have H1 := hq' (H0.out.below B1.out)
 have HE1 := hq' (HEE.out _ B1.out)
 have R1 := hq' CA.out.range
 obtain ⟨pa,hpa⟩ : ∃ pa,pa = w.heap.size := ⟨_,rfl⟩
 rw [← hpa] at R1
 first | rw [← hpa] | skip
 have HPA := hq' hpa
 clear hpa CA
 go_wp2_with (refine wpList_load_mid (by rfl) _ _ (by rfl) pa 0 (by rfl) cs _ R1.out Tryz.underlying44 (by rfl) HIL.out ?_)
 refine HE1.out.mono ?_
 rintro e w2 ⟨rfl,hb2⟩
 have H2 := hq' (H1.out.below hb2)
 have B2 := hq' (bt B1.out hb2)
 clear hb2
 go_wp2
 go_ret
 exact ⟨rfl,H2.out,B2.out⟩
theorem bagPut_zero (B pb : Nat) (lv : Value) (l : List Item) (w : World) (h : BagW w B pb lv l) (hB : B ≤ w.heap.size) :
  Calls Tryz.prog 10 #[.pointer (some ⟨pb,0,none⟩),.agg (zt0).toArray] w fun e w' => e = .returned (.int .i64 1) ∧ BagW w' B pb lv l ∧ Below w.heap.size w w' :=
 bagPut_no _ rfl B pb lv l w h hB (fun W hW => encode_no _ rfl W (fun W2 hW2 => good_none _ 0 rfl (by decide) W2))
theorem beat_any (n : Int) (w : World) : Calls Tryz.prog 21 #[.int .i64 n] w fun e w' => e = .returned (msgV (beatM 1 0 n) zeroV) ∧ Below w.heap.size w w' := by
 have HRV : Hid (msgV (beatM 1 0 n) zeroV = .agg (.int .i64 3::.int .i64 1::.int .i64 0::.int .i64 0::.int .i64 0::.int .i64 0::.int .i64 0::.int .i64 n::zt8).toArray) := rfl
 rw [HRV.out]
 clear HRV
 have HI38 := hq' (show (Tryz.prog.info? 44).map (·.size) = some ((.int .i64 3::.int .i64 1::.int .i64 0::.int .i64 0::.int .i64 0::.int .i64 0::.int .i64 0::.int .i64 n::zt8) : List Value).length by kernel_rfl)
 have HI39 := hq' (show (Tryz.prog.info? 44).map (·.size) = some ((.int .i64 3::.int .i64 1::.int .i64 0::.int .i64 0::.int .i64 0::.int .i64 0::.int .i64 0::.int .i64 n::zt8).toArray : Array Value).size by kernel_rfl)
 have HONE : Hid (((.int .i64 3::.int .i64 1::.int .i64 0::.int .i64 0::.int .i64 0::.int .i64 0::.int .i64 0::.int .i64 n::zt8).toArray : Array Value).all (·.oneCell') = true) := by simp [Hid,Value.oneCell']
 have HSZ : Hid (((zt0).toArray : Array Value).size = ((.int .i64 3::.int .i64 1::.int .i64 0::.int .i64 0::.int .i64 0::.int .i64 0::.int .i64 0::.int .i64 n::zt8).toArray : Array Value).size) := rfl
 go_enter Tryz.func21,Tryz.ntmps21
 obtain ⟨w1,hw1,CR,B1⟩ := oneBox (w := w) (zt0) 44
 have HW1 := hq' hw1
 clear hw1
 go_upto_region 1 with (fail)
 first | rw [HW1.out] | skip
 clear HW1
 have CQ : Hid (w1.heap[w.heap.size]? = some (.cells (zt0).toArray 44 (0,0))) := CR.out
 have CF : Hid (Cl (w1.setRow w.heap.size (.int .i64 3::.int .i64 1::.int .i64 0::.int .i64 0::.int .i64 0::.int .i64 0::.int .i64 0::.int .i64 n::zt8).toArray) w.heap.size (.int .i64 3::.int .i64 1::.int .i64 0::.int .i64 0::.int .i64 0::.int .i64 0::.int .i64 0::.int .i64 n::zt8) 44) := CR.out.row _
 have KF : Hid (Keeps (fun j => j = w.heap.size) w1 (w1.setRow w.heap.size (.int .i64 3::.int .i64 1::.int .i64 0::.int .i64 0::.int .i64 0::.int .i64 0::.int .i64 0::.int .i64 n::zt8).toArray)) := Keeps.row _ _ _ rfl
 have BF : Hid (Below w.heap.size w (w1.setRow w.heap.size (.int .i64 3::.int .i64 1::.int .i64 0::.int .i64 0::.int .i64 0::.int .i64 0::.int .i64 0::.int .i64 n::zt8).toArray)) := B1.out.trans (KF.out.toBelow B1.out.size (fun j hj e => by omega))
 go_wp2_with (refine wpList_store_row (by rfl) _ _ _ (by rfl) w.heap.size (.int .i64 3::.int .i64 1::.int .i64 0::.int .i64 0::.int .i64 0::.int .i64 0::.int .i64 0::.int .i64 n::zt8).toArray (by rfl) (by rfl) 44 _ CQ.out HI39.out HSZ.out HONE.out ?_)
 refine bodyPost_ret (results_cl rfl _ _ _ _ _ _ rfl CF.out Tryz.underlying44 rfl HI38.out) rfl ?_
 exact ⟨rfl,BF.out⟩
open Go.RowKit
def CopyPost (B pb : Nat) (lv : Value) (l : List Item) (w : World) (e : Ending) (w' : World) : Prop :=
 e = .returned (.bool true) ∧ ∃ lv',BagW w' B pb lv' l ∧ BagK pb lv lv' w w'
theorem bagCopy_no (B pb : Nat) (lv : Value) (l : List Item) (n : Int) (hn : ¬ (0 ≤ n ∧ n < l.length)) (w : World) (h : BagW w B pb lv l) :
  Calls Tryz.prog 15 #[.pointer (some ⟨pb,0,none⟩),.int .i64 n] w fun e w' => e = .returned (.bool false) ∧ w' = w := by
 have HH := bagHas_any B pb lv l n w h
 rw [show decide (0 ≤ n ∧ n < (l.length : Int)) = false from decide_eq_false hn] at HH
 have HHA := hq' HH
 clear HH hn h
 go_enter Tryz.func15,Tryz.ntmps15
 go_wp2_with fail
 refine HHA.out.mono ?_
 rintro e w2 ⟨rfl,rfl⟩
 go_wp2
 go_ret
 exact ⟨rfl,rfl⟩
theorem bagCopy_full (B pb : Nat) (lv : Value) (l : List Item) (n : Int) (hf : l.length = 256) (w : World) (h : BagW w B pb lv l) :
  Calls Tryz.prog 15 #[.pointer (some ⟨pb,0,none⟩),.int .i64 n] w fun e w' => e = .returned (.bool false) ∧ w' = w := by
 by_cases hn : 0 ≤ n ∧ n < l.length
 ·have HH := bagHas_any B pb lv l n w h
  rw [show decide (0 ≤ n ∧ n < (l.length : Int)) = true from decide_eq_true hn] at HH
  have HHA := hq' HH
  have c0 := h.c.cell 0
  obtain ⟨a,cap,rfl,_⟩ := h.s.form
  simp only [List.getElem?_cons_zero] at c0
  clear HH hn h
  go_enter Tryz.func15,Tryz.ntmps15
  go_wp2_with fail
  refine HHA.out.mono ?_
  rintro e w2 ⟨rfl,rfl⟩
  go_wp2
  go_ret
  exact ⟨rfl,rfl⟩
 ·exact bagCopy_no B pb lv l n hn w h
theorem bagCopy_any (B pb : Nat) (lv : Value) (l : List Item) (k : Nat) (x : Item) (hx : l[k]? = some x) (hlt : l.length < 256) (w : World) (h : BagW w B pb lv l) (hB : B ≤ w.heap.size) :
  Calls Tryz.prog 15 #[.pointer (some ⟨pb,0,none⟩),.int .i64 k] w (CopyPost B pb lv (l ++ [x]) w) := by
 have H2 := hq' h
 have hk : k < l.length := (List.getElem?_eq_some_iff.1 hx).1
 have hki : (k : Int) < (l.length : Int) := by omega
 have HX := hq' hx
 have HH := bagHas_any B pb lv l k w h
 rw [show decide (0 ≤ (k : Int) ∧ (k : Int) < (l.length : Int)) = true from decide_eq_true (by omega)] at HH
 have HHA := hq' HH
 obtain ⟨i0,hi,hz0,hz1,hz2⟩ := info_parts infoItem
 clear h HH hx
 have s1 := H2.out.s
 rcases s1.2 with ⟨_,h0⟩ | ⟨g,off,cap,hlv,hgB,hg,hnc,hmc,hr,ht⟩
 ·omega
 subst hlv
 have c1 : w.cell? ⟨pb,0,none⟩ = some (.slice (some ⟨g,off,none⟩) l.length cap) := H2.out.c.cell 0
 have cx : w.cell? ⟨g,off + k * 2,none⟩ = some (.string ⟨x.1.toArray⟩) := hr _ _ (itC_at HX.out).1
 have cy : w.cell? ⟨g,off + k * 2 + 1,none⟩ = some (.int .i64 x.2) := by rw [Nat.add_assoc]; exact hr _ _ (itC_at HX.out).2
 clear s1 hr ht
 have ITM : Hid (Cl (w.alloc (.cells #[.string ⟨x.1.toArray⟩,.int .i64 x.2] 74)) w.heap.size [.string ⟨x.1.toArray⟩,.int .i64 x.2] 74) := Cl.new w _ _
 have hsl : Hid (Sl (w.alloc (.cells #[.string ⟨x.1.toArray⟩,.int .i64 x.2] 74)).drew B 2 (.slice (some ⟨g,off,none⟩) l.length cap) l.length (itC l)) := H2.out.s.kept (S := fun _ => False) ((Keeps.alloc _ _ _).trans (Keeps.drew _ _)) (fun _ _ => id)
 have hsrc : Hid (SrcIs (w.alloc (.cells #[.string ⟨x.1.toArray⟩,.int .i64 x.2] 74)).drew 2 (.slice (some ⟨w.heap.size,0,none⟩) 1 1) 1 [.string ⟨x.1.toArray⟩,.int .i64 x.2]) := ITM.out.src 2 1 1 rfl
 have hone : ∀ u ∈ [Value.string ⟨x.1.toArray⟩,.int .i64 x.2],u.oneCell' = true := by simp [Value.oneCell']
 have h63 : l.length + 1 ≤ maxLen := by unfold maxLen; omega
 have hby : (l.length + 1) * 24 ≤ 140737488355328 := by omega
 have hba : B ≤ ((w.alloc (.cells #[.string ⟨x.1.toArray⟩,.int .i64 x.2] 74)).drew).heap.size := by have h2 := World.size_alloc w (.cells #[.string ⟨x.1.toArray⟩,.int .i64 x.2] 74); show B ≤ (w.alloc (.cells #[.string ⟨x.1.toArray⟩,.int .i64 x.2] 74)).heap.size; omega
 have HPO := hq' (fun (w4 : World) (v' : Value) h1 h2 h3 => bag_put_post (x := x) (w4 := w4) (v' := v') H2.out hlt h1 h2 h3)
 have gA : (w.alloc (.cells #[.string ⟨x.1.toArray⟩,.int .i64 x.2] 74)).cell? ⟨pb,0,none⟩ = some (.slice (some ⟨g,off,none⟩) l.length cap) := (H2.out.c.alloc _).cell 0
 go_enter Tryz.func15,Tryz.ntmps15
 go_wp2_with fail
 refine HHA.out.mono ?_
 rintro e w2 ⟨rfl,rfl⟩
 clear HHA
 go_upto_region 3 with (fail)
 go_region_law (first
  | (refine step_append_sl _ (by rfl) _ _ _ (by rfl) B 74 i0 _ 2 24 Tryz.underlying63 hi hz0 hz1 hz2 rfl (by decide) (.slice (some ⟨g,off,none⟩) l.length cap) l.length (itC l) (by rfl) hsl.out (.slice (some ⟨w2.heap.size,0,none⟩) 1 1) 1 [.string ⟨x.1.toArray⟩,.int .i64 x.2] (by rfl) hsrc.out hone h63 hby hba Nat.one_pos ?_; intro g4 off4 cap4 w4 hown4 hg4 hnew4; obtain ⟨hpost,hcell4,hfree4⟩ := HPO.out _ _ hown4 hg4 (hnew4.imp (fun e => e.symm) (fun e k hk => (Option.some.inj hk) ▸ e)); have HP := hq' hpost; clear hpost hown4 hg4 hnew4))
 all_goals
  go_wp2
  go_ret
  exact ⟨rfl,_,HP.out.1,HP.out.2⟩
open Go.RowKit
def toU (u : Int) (x : Item) : Bool := x.2 == u
def idxI (p : Item → Bool) : Nat → List Item → Int
 | _,[] => -1
 | k,x::r => if p x then k else idxI p (k + 1) r
theorem idxI_step (p : Item → Bool) (l : List Item) (k : Nat) (x : Item) (h : l[k]? = some x) : idxI p k (l.drop k) = if p x then (k : Int) else idxI p (k + 1) (l.drop (k + 1)) := by
 obtain ⟨hk,rfl⟩ := List.getElem?_eq_some_iff.1 h
 rw [List.drop_eq_getElem_cons hk]
 rfl
theorem idxI_spec (p : Item → Bool) (l : List Item) : ∀ k,(idxI p k l = -1 ∧ ∀ x ∈ l,p x = false) ∨ ∃ j,j < l.length ∧ idxI p k l = ((k + j : Nat) : Int) ∧ (∀ x ∈ l.take j,p x = false) ∧ ∃ x,l[j]? = some x ∧ p x = true := by
 induction l with
 | nil => intro k; exact .inl ⟨rfl,fun x hx => (by simp at hx)⟩
 | cons y r ih =>
  intro k
  cases hy : p y with
  | true => exact .inr ⟨0,by simp,by simp [idxI,hy],fun x hx => (by simp at hx),y,rfl,hy⟩
  | false =>
   rcases ih (k + 1) with ⟨h1,h2⟩ | ⟨j,h1,h2,h3,x,h4,h5⟩
   ·exact .inl ⟨by simp [idxI,hy,h1],fun x hx => by
     rcases List.mem_cons.1 hx with rfl | hx
     ·exact hy
     ·exact h2 x hx⟩
   ·refine .inr ⟨j + 1,by simp; omega,by simp only [idxI,hy]; rw [if_neg (by simp),h2]; congr 1; omega,fun z hz => ?_,x,by simpa using h4,h5⟩
    rw [List.take_succ_cons] at hz
    rcases List.mem_cons.1 hz with rfl | hz
    ·exact hy
    ·exact h3 z hz
def clF (pu : Nat) : Value := .func (.func 35) #[] #[.pointer (some ⟨pu,0,none⟩)]
theorem isto_any (u : Int) (x : Item) (pu : Nat) (w : World) (h : Cl w pu [.int .i64 u] 3) :
  Calls Tryz.prog 35 #[.agg #[.string ⟨x.1.toArray⟩,.int .i64 x.2],.pointer (some ⟨pu,0,none⟩)] w fun e w' => e = .returned (.bool (toU u x)) ∧ Below w.heap.size w w' := by
 have BA : Hid (Below w.heap.size w (w.alloc (.cells #[.string ⟨x.1.toArray⟩,.int .i64 x.2] 74))) := (Below.refl _ _).alloc (Nat.le_refl _) _
 have CX : Hid (Cl (w.alloc (.cells #[.string ⟨x.1.toArray⟩,.int .i64 x.2] 74)) w.heap.size [.string ⟨x.1.toArray⟩,.int .i64 x.2] 74) := Cl.new w _ _
 have HU := hq' (h.below BA.out)
 have HV : Hid ((x.2 == u) = toU u x) := rfl
 clear h
 go_enter Tryz.func35,Tryz.ntmps35
 go_upto_region 1 with (fail)
 generalize w.alloc (.cells #[.string ⟨x.1.toArray⟩,.int .i64 x.2] 74) = w1 at *
 generalize w.heap.size = px at CX ⊢
 have x1 := CX.out.cell 1
 have u0 := HU.out.cell 0
 simp only [g0',gs'] at x1 u0
 go_wp2
 go_ret
 exact ⟨by rw [← HV.out]; rfl,BA.out⟩
theorem Sl.get2 {w w' : World} {B : Nat} {v : Value} {n : Nat} {l : List Item} (h : Sl w B 2 v n (itC l)) (k : Nat) (x : Item) (hx : l[k]? = some x) (hk : k < n) :
  ∃ g off cap,v = .slice (some ⟨g,off,none⟩) n cap ∧ B ≤ g ∧ g < w.heap.size ∧ w.cell? ⟨g,off + k * 2,none⟩ = some (.string ⟨x.1.toArray⟩) ∧ w.cell? ⟨g,off + k * 2 + 1,none⟩ = some (.int .i64 x.2) := by
 rcases h.2 with ⟨_,h0⟩ | ⟨g,off,cap,rfl,hB,hg,hn,hm,hr,ht⟩
 ·omega
 ·exact ⟨g,off,cap,rfl,hB,hg,hr _ _ (itC_at hx).1,by rw [Nat.add_assoc]; exact hr _ _ (itC_at hx).2⟩
theorem idxto_any (u : Int) (l : List Item) (hl : l.length ≤ 256) (pu B : Nat) (rv : Value) (w : World) (h : Sl w B 2 rv l.length (itC l)) (hu : Cl w pu [.int .i64 u] 3) :
  Calls Tryz.prog 63 #[rv,clF pu] w fun e w' => e = .returned (.int .i64 (idxI (toU u) 0 l)) ∧ Below w.heap.size w w' := by
 have HZ := hq' h
 have HU := hq' hu
 obtain ⟨a,cap,rfl,_⟩ := h.form
 clear h hu
 unfold clF
 go_enter Tryz.func63,Tryz.ntmps63
 go_wp2
 go_loopw [8] (fun i wr => ∃ k : Nat,i = .int .i64 k ∧ k ≤ l.length ∧ idxI (toU u) 0 l = idxI (toU u) k (l.drop k) ∧ Below w.heap.size w wr) (fun i _ => l.length - (intOf i).toNat)
 case atStart => exact ⟨0,rfl,by omega,rfl,Below.refl _ _⟩
 case round =>
  obtain ⟨k,rfl,hk,hr,hb⟩ := hrel
  have HR2 := hq' hr
  have HB := hq' hb
  clear hr hb
  by_cases hlt : k < l.length
  ·obtain ⟨x,hx⟩ : ∃ x,l[k]? = some x := ⟨l[k],by simp [hlt]⟩
   have HN := hq' (isto_any u x pu wr (HU.out.below HB.out))
   have HS := hq' (idxI_step (toU u) l k x hx)
   obtain ⟨g,off,cap',he,hgB,hg,p0,p1⟩ := Sl.get2 (w' := wr) (HZ.out.kept (Keeps.below (fun _ => False) HB.out) (fun _ _ => id)) k x hx hlt
   injection he with he1 he2 he3
   subst he1 he3
   have hki : (k : Int) < (l.length : Int) := by omega
   clear he2 hx
   cases hb : toU u x with
   | false =>
    have HX : Hid (idxI (toU u) 0 l = idxI (toU u) (k + 1) (l.drop (k + 1))) := by rw [Hid,HR2.out,HS.out,hb]; rfl
    rw [hb] at HN
    clear HS hb
    go_wp2_with fail
    refine HN.out.mono ?_
    rintro e w5 ⟨rfl,hb5⟩
    have B5 := hq' (bt HB.out hb5)
    clear hb5
    go_wp2
    go_roundw
    case rel => exact ⟨k + 1,by go_num,by omega,HX.out,B5.out⟩
    case measure => simp [intOf]; omega
   | true =>
    have HX : Hid (idxI (toU u) 0 l = k) := by rw [Hid,HR2.out,HS.out,hb]; rfl
    rw [hb] at HN
    clear HS hb
    go_wp2_with fail
    refine HN.out.mono ?_
    rintro e w5 ⟨rfl,hb5⟩
    have B5 := hq' (bt HB.out hb5)
    clear hb5
    go_wp2
    go_ret
    exact ⟨by rw [HX.out]; rfl,B5.out⟩
  ·obtain rfl : k = l.length := by omega
   have HX : Hid (idxI (toU u) 0 l = -1) := by rw [Hid,HR2.out,List.drop_length]; rfl
   go_wp2
   go_ret
   exact ⟨by rw [HX.out]; rfl,HB.out⟩
theorem itC_put : ∀ (l : List Item) (k : Nat) (x : Item),k < l.length → ((itC l).set (k * 2) (.string ⟨x.1.toArray⟩)).set (k * 2 + 1) (.int .i64 x.2) = itC (l.set k x) := by
 intro l
 induction l with
 | nil => intro k x h; simp at h
 | cons y l ih =>
  intro k x h
  cases k with
  | zero => rfl
  | succ k =>
   have e : itC (y::l) = [.string ⟨y.1.toArray⟩,.int .i64 y.2] ++ itC l := rfl
   have hk := ih k x (by simpa using h)
   rw [e,show (k + 1) * 2 = 2 + k * 2 by omega]
   simp only [List.cons_append,List.nil_append,Nat.add_assoc,Nat.add_comm 2,List.set_cons_succ]
   rw [hk]
   rfl
theorem Sl.set2 {w : World} {B : Nat} {v : Value} {l : List Item} {n : Nat} (h : Sl w B 2 v n (itC l)) (hn : l.length = n) (k : Nat) (hk : k < n) (x : Item) :
  ∃ g off cap u0 u1,v = .slice (some ⟨g,off,none⟩) n cap ∧ B ≤ g ∧ w.cell? ⟨g,off + k * 2,none⟩ = some u0 ∧ w.cell? ⟨g,off + k * 2 + 1,none⟩ = some u1 ∧
   w.frozen? ⟨g,off + k * 2,none⟩ = false ∧ w.frozen? ⟨g,off + k * 2 + 1,none⟩ = false ∧
   Sl ((w.setCell ⟨g,off + k * 2,none⟩ (.string ⟨x.1.toArray⟩)).setCell ⟨g,off + k * 2 + 1,none⟩ (.int .i64 x.2)) B 2 v n (itC (l.set k x)) := by
 subst hn
 obtain ⟨g,off,cap,u0,hv,hB,c0,f0,h0⟩ := h.setc (k * 2) (by omega) (.string ⟨x.1.toArray⟩)
 obtain ⟨g1,off1,cap1,u1,hv1,hB1,c1,f1,_⟩ := h.setc (k * 2 + 1) (by omega) (.int .i64 x.2)
 obtain ⟨g4,off4,cap4,u4,hv4,hB4,c4,f4,h1⟩ := h0.setc (k * 2 + 1) (by omega) (.int .i64 x.2)
 rw [hv] at hv1 hv4
 cases hv1; cases hv4
 rw [itC_put l k x hk] at h1
 exact ⟨g,off,cap,u0,u1,hv,hB,c0,c1,f0,f1,h1⟩
theorem Sl.cut2 {w : World} {B g off cap n : Nat} {l : List Item} (h : Sl w B 2 (.slice (some ⟨g,off,none⟩) n cap) n (itC l)) (hn : l.length = n) (k : Nat) (hk : k ≤ n) :
  Sl w B 2 (.slice (some ⟨g,off,none⟩) k cap) k (itC (l.take k)) := by
 subst hn
 obtain ⟨hlen,h2⟩ := h
 rcases h2 with ⟨h2,_⟩ | ⟨g',off',cap',he,hB,hg,hc,hm,hr,ht⟩
 ·cases h2
 ·cases he
  refine ⟨by rw [itC_len,List.length_take]; omega,.inr ⟨g,off,cap,rfl,hB,hg,by omega,hm,?_,ht⟩⟩
  intro j u hu
  rw [itC_take,List.getElem?_take] at hu
  split at hu
  ·exact hr j u hu
  ·cases hu
def zeroIts (n : Nat) : List Value := (Builtin.zeroCells (Value.agg #[.string ⟨#[]⟩,.int .i64 0]).cells n).toList
theorem zeroIts_len (n : Nat) : (zeroIts n).length = n * 2 := by simp [zeroIts,Builtin.zeroCells,Value.cells]
theorem zeroIts_one (n : Nat) : ∀ u ∈ zeroIts n,u.oneCell' = true := by
 intro u hu
 simp only [zeroIts,Builtin.zeroCells,Array.toList_map,List.mem_map,Value.cells] at hu
 obtain ⟨i,_,rfl⟩ := hu
 have : i % 2 = 0 ∨ i % 2 = 1 := by omega
 show (Value.oneCell' #[Value.string ⟨#[]⟩,.int .i64 0][i % 2]!) = true
 rcases this with e | e <;> rw [e] <;> rfl
theorem Sl.cleared2 {w : World} {B g off cap n : Nat} {l : List Item} (h : Sl w B 2 (.slice (some ⟨g,off,none⟩) n cap) n (itC l)) (hn : l.length = n) (k : Nat) (hk : k < n) :
  (∀ ty,(Builtin.clear_ #[63] ty #[.slice (some ⟨g,off + k * 2,none⟩) (n - k) (cap - k)]).run Tryz.prog w = .ok (.tuple #[]) (w.setCells g (off + k * 2) (zeroIts (n - k)))) ∧
  Sl (w.setCells g (off + k * 2) (zeroIts (n - k))) B 2 (.slice (some ⟨g,off,none⟩) k cap) k (itC (l.take k)) ∧ Keeps (fun j => j = g) w (w.setCells g (off + k * 2) (zeroIts (n - k))) := by
 have hc := h.cut2 hn k (by omega)
 obtain ⟨hlen,h2⟩ := h
 rcases h2 with ⟨h2,_⟩ | ⟨g',off',cap',he,hB,hg,hcp,hm,hr,ht⟩
 ·cases h2
 ·cases he
  have K := Keeps.cells (S := fun j => j = g) w g (off + k * 2) (zeroIts (n - k)) rfl
  refine ⟨fun ty => run_clear_rows w 63 74 ty _ Tryz.underlying63 Tryz.zeroValue74 g _ _ _ (by omega) (zeroIts_one _) (fun j hj => ?_) (fun j hj => ?_),⟨hc.1,.inr ⟨g,off,cap,rfl,hB,Nat.lt_of_lt_of_le hg K.size,by omega,hm,?_,World.there_setCells ht _ _ _⟩⟩,K⟩
  ·have hj2 : j < (n - k) * 2 := by rw [← zeroIts_len]; exact hj
   have := (ht (k * 2 + j) (by omega)).1
   rwa [← Nat.add_assoc] at this
  ·have hj2 : j < (n - k) * 2 := by rw [← zeroIts_len]; exact hj
   have := (ht (k * 2 + j) (by omega)).2
   rwa [← Nat.add_assoc] at this
  ·obtain ⟨hl3,h3⟩ := hc
   rcases h3 with ⟨h3,_⟩ | ⟨g',off',cap',he,hB',hg',hcp',hm',hr',ht'⟩
   ·cases h3
   ·cases he
    exact World.rangeAt_setCells_apart hr' _ _ _ (.inr (.inl (by rw [hl3]; exact Nat.le_refl _)))
structure Dl (p : Item → Bool) (l L : List Item) (i j : Nat) : Prop where
 len : L.length = l.length
 lt : i < j
 le : j ≤ l.length
 low : L.take i = (l.take j).filter (fun x => !p x)
 high : L.drop j = l.drop j
theorem filter_take (p : Item → Bool) (l : List Item) (j : Nat) (x : Item) (h : l[j]? = some x) : (l.take (j + 1)).filter p = (l.take j).filter p ++ [x].filter p := by
 obtain ⟨hj,rfl⟩ := List.getElem?_eq_some_iff.1 h
 rw [List.take_succ_eq_append_getElem hj,List.filter_append]
theorem filter_all (p : Item → Bool) (l : List Item) (h : ∀ x ∈ l,p x = false) : l.filter (fun x => !p x) = l := List.filter_eq_self.2 (fun x hx => by rw [h x hx]; rfl)
theorem Dl.start {p : Item → Bool} {l : List Item} {k : Nat} {x : Item} (h1 : ∀ x ∈ l.take k,p x = false) (h2 : l[k]? = some x) (h3 : p x = true) : Dl p l l k (k + 1) :=
 ⟨rfl,by omega,(List.getElem?_eq_some_iff.1 h2).1,by rw [filter_take _ l k x h2,filter_all p _ h1]; simp [h3],rfl⟩
theorem Dl.get {p : Item → Bool} {l L : List Item} {i j : Nat} (h : Dl p l L i j) : L[j]? = l[j]? := by
 have := congrArg (fun m => m[0]?) h.high
 simpa [List.getElem?_drop] using this
theorem Dl.skip {p : Item → Bool} {l L : List Item} {i j : Nat} {x : Item} (h : Dl p l L i j) (hx : l[j]? = some x) (hp : p x = true) : Dl p l L i (j + 1) :=
 ⟨h.len,by have := h.lt; omega,(List.getElem?_eq_some_iff.1 hx).1,by rw [h.low,filter_take _ l j x hx]; simp [hp],by rw [← List.drop_drop,← List.drop_drop,h.high]⟩
theorem Dl.keep {p : Item → Bool} {l L : List Item} {i j : Nat} {x : Item} (h : Dl p l L i j) (hx : l[j]? = some x) (hp : p x = false) : Dl p l (L.set i x) (i + 1) (j + 1) := by
 have hj := (List.getElem?_eq_some_iff.1 hx).1
 have hlt := h.lt
 have hlen := h.len
 refine ⟨by rw [List.length_set,h.len],by omega,hj,?_,?_⟩
 ·have hi : i < (L.set i x).length := by rw [List.length_set]; omega
  rw [List.take_succ_eq_append_getElem hi,List.getElem_set_self,List.take_set_of_le (Nat.le_refl _),h.low,filter_take _ l j x hx]
  simp [hp]
 ·rw [List.drop_set_of_lt (by omega),← List.drop_drop,← List.drop_drop,h.high]
def DlPost (w : World) (B : Nat) (v : Value) (l : List Item) (e : Ending) (w' : World) : Prop :=
 ∃ v',e = .returned v' ∧ v'.ownBlock = v.ownBlock ∧ Sl w' B 2 v' l.length (itC l) ∧ Keeps (fun k => v.ownBlock = some k) w w'
theorem delto_any (u : Int) (l : List Item) (hl : l.length ≤ 256) (pu B : Nat) (v : Value) (w : World) (h : Sl w B 2 v l.length (itC l)) (hu : Cl w pu [.int .i64 u] 3)
  (hap : ∀ k,v.ownBlock = some k → k ≠ pu) :
  Calls Tryz.prog 34 #[v,clF pu] w (DlPost w B v (l.filter (fun x => !toU u x))) := by
 have HI := hq' (idxto_any u l hl pu B v w h hu)
 have HS := hq' h
 have HU := hq' hu
 have HA := hq' hap
 obtain ⟨av,cap,rfl,hcap,hav⟩ := h.form
 clear h hu hap
 unfold clF at *
 rcases idxI_spec (toU u) l 0 with ⟨h1,h2⟩ | ⟨k0,h1,h2,h3,x0,h4,h5⟩
 ·have HF : Hid (l.filter (fun x => !toU u x) = l) := filter_all _ _ h2
  rw [h1] at HI
  clear h1 h2
  go_enter Tryz.func34,Tryz.ntmps34
  go_wp2_with fail
  refine HI.out.mono ?_
  rintro e w1 ⟨rfl,hb⟩
  have HB := hq' hb
  clear hb
  go_wp2
  go_ret
  exact ⟨_,rfl,rfl,by rw [HF.out]; exact HS.out.kept (Keeps.below (fun _ => False) HB.out) (fun _ _ => id),Keeps.below _ HB.out⟩
 ·rw [h2] at HI
  simp only [Nat.zero_add] at HI
  have D0 := hq' (Dl.start h3 h4 h5)
  clear h2 h3 h4 h5
  rcases hav with rfl | ⟨g,off,rfl⟩
  ·exfalso
   rcases HS.out.2 with ⟨he,h0⟩ | ⟨g,off,cap',he,_⟩
   ·omega
   ·cases he
  have HA2 : Hid (g ≠ pu) := HA.out g rfl
  have hne1 : ((k0 : Int) == -1) = false := beq_eq_false_iff_ne.2 (by omega)
  clear HA
  go_enter Tryz.func34,Tryz.ntmps34
  go_wp2_with fail
  refine HI.out.mono ?_
  rintro e w1 ⟨rfl,hb⟩
  have S1 : Hid (Sl w1 B 2 (.slice (some ⟨g,off,none⟩) l.length cap) l.length (itC l)) := HS.out.kept (Keeps.below (fun _ => False) hb) (fun _ _ => id)
  have K1 : Hid (Keeps (fun j => j = g) w w1) := Keeps.below _ hb
  clear hb HI HS
  go_wp2
  go_loopw [5,6] (fun ti tj wr => ∃ (i j : Nat) (L : List Item),ti = .int .i64 i ∧ tj = .int .i64 j ∧ j ≤ l.length ∧ i < j ∧ Dl (toU u) l L i j ∧ Sl wr B 2 (.slice (some ⟨g,off,none⟩) l.length cap) l.length (itC L) ∧ Keeps (fun j => j = g) w wr) (fun _ tj _ => l.length - (intOf tj).toNat)
  case atStart => exact ⟨k0,k0 + 1,l,rfl,by go_num,by omega,by omega,D0.out,S1.out,K1.out⟩
  case round =>
   obtain ⟨i,j,L,rfl,rfl,hj,hij,hD,hS,hK⟩ := hrel
   have DL := hq' hD
   have SL := hq' hS
   have KL := hq' hK
   have hlen := hD.len
   clear hD hS hK S1 K1 D0
   by_cases hlt : j < l.length
   ·obtain ⟨x,hx⟩ : ∃ x,l[j]? = some x := ⟨l[j],by simp [hlt]⟩
    have hxL : L[j]? = some x := DL.out.get.trans hx
    obtain ⟨g',off',cap',he,hgB,hgw,p0,p1⟩ := Sl.get2 (w' := wr) SL.out j x hxL hlt
    cases he
    have HU1 : Hid (Cl wr pu [.int .i64 u] 3) := Cl.keep HU.out KL.out (fun e => HA2.out e.symm)
    have B1 : Hid (Below wr.heap.size wr (wr.alloc (.cells #[.string ⟨x.1.toArray⟩,.int .i64 x.2] 74))) := (Below.refl _ _).alloc (Nat.le_refl _) _
    have C1 : Hid (Cl (wr.alloc (.cells #[.string ⟨x.1.toArray⟩,.int .i64 x.2] 74)) wr.heap.size [.string ⟨x.1.toArray⟩,.int .i64 x.2] 74) := Cl.new wr _ _
    have SL1 : Hid (Sl (wr.alloc (.cells #[.string ⟨x.1.toArray⟩,.int .i64 x.2] 74)) B 2 (.slice (some ⟨g,off,none⟩) l.length cap) l.length (itC L)) := SL.out.kept (Keeps.below (fun _ => False) B1.out) (fun _ _ => id)
    have KL1 : Hid (Keeps (fun j => j = g) w (wr.alloc (.cells #[.string ⟨x.1.toArray⟩,.int .i64 x.2] 74))) := KL.out.trans (Keeps.below _ B1.out)
    have HU2 := hq' (HU1.out.below B1.out)
    have HN := hq' (isto_any u x pu _ HU2.out)
    have HX := hq' hx
    have hq : wr.heap.size ≠ g := by omega
    have hji : (j : Int) < (l.length : Int) := by omega
    clear hx hxL
    go_upto_region 8 with (fail)
    generalize wr.alloc (.cells #[.string ⟨x.1.toArray⟩,.int .i64 x.2] 74) = w2 at *
    clear p0 p1 HU1 B1 hgw
    generalize wr.heap.size = q at *
    have d0 := C1.out.cell 0
    have d1 := C1.out.cell 1
    simp only [g0',gs'] at d0 d1
    cases hb : toU u x with
    | true =>
     rw [hb] at HN
     have DL2 := hq' (DL.out.skip HX.out hb)
     clear hb
     go_wp2_with fail
     refine HN.out.mono ?_
     rintro e w3 ⟨rfl,hb3⟩
     have SL3 : Hid (Sl w3 B 2 (.slice (some ⟨g,off,none⟩) l.length cap) l.length (itC L)) := SL1.out.kept (Keeps.below (fun _ => False) hb3) (fun _ _ => id)
     have KL3 : Hid (Keeps (fun j => j = g) w w3) := KL1.out.trans (Keeps.below _ hb3)
     clear hb3
     go_wp2
     go_roundw
     case rel => exact ⟨i,j + 1,L,rfl,by go_num,by omega,by omega,DL2.out,SL3.out,KL3.out⟩
     case measure => simp [intOf]; omega
    | false =>
     rw [hb] at HN
     have DL2 := hq' (DL.out.keep HX.out hb)
     clear hb
     go_wp2_with fail
     refine HN.out.mono ?_
     rintro e w3 ⟨rfl,hb3⟩
     have C3 := hq' (C1.out.below hb3)
     have SL3 : Hid (Sl w3 B 2 (.slice (some ⟨g,off,none⟩) l.length cap) l.length (itC L)) := SL1.out.kept (Keeps.below (fun _ => False) hb3) (fun _ _ => id)
     have KL3 : Hid (Keeps (fun j => j = g) w w3) := KL1.out.trans (Keeps.below _ hb3)
     clear hb3 d0 d1
     have d0 := C3.out.cell 0
     have d1 := C3.out.cell 1
     simp only [g0',gs'] at d0 d1
     obtain ⟨g1,off1,cap1,u0,u1,hv1,hB1,e0,e1,f0,f1,hset⟩ := SL3.out.set2 hlen i (by omega) x
     cases hv1
     have SL4 := hq' hset
     have KL4 : Hid (Keeps (fun j => j = g) w ((w3.setCell ⟨g,off + i * 2,none⟩ (.string ⟨x.1.toArray⟩)).setCell ⟨g,off + i * 2 + 1,none⟩ (.int .i64 x.2))) := (KL3.out.trans (Keeps.setCell _ _ _ _ rfl)).trans (Keeps.setCell _ _ _ _ rfl)
     have hii : (i : Int) < (l.length : Int) := by omega
     clear hset
     go_wp2
     go_roundw
     case rel => exact ⟨i + 1,j + 1,L.set i x,by go_num,by go_num,by omega,by omega,DL2.out,SL4.out,KL4.out⟩
     case measure => simp [intOf]; omega
   ·obtain rfl : j = l.length := by omega
    obtain ⟨i0,hi,hz0,hz1,hz2⟩ := info_parts infoItem
    have he : Tryz.prog.elem 63 = 74 := by simp [Program.elem,Tryz.underlying63]
    have hs1 : ∀ w,(Instr.slice 63 (.slice (some ⟨g,off,none⟩) l.length cap) (some (.int .i64 i)) none none).run Tryz.prog w = .ok (.slice (some ⟨g,off + i * 2,none⟩) (l.length - i) (cap - i)) w := by
     intro w
     rw [run_slice_l (P := Tryz.prog) w 63 _ _ cap (by rw [he]; exact Tryz.underlying63) .i64 i (by omega) (by omega),he]
     have hcc : ¬ (cap = Int.toNat i) := by omega
     have hcc2 : ¬ (cap = i) := by omega
     simp [sizeOf,typeInfo,hi,hz1,sliced,Addr.add,hcc,hcc2]
    have hs2 : ∀ w,(Instr.slice 63 (.slice (some ⟨g,off,none⟩) l.length cap) none (some (.int .i64 i)) none).run Tryz.prog w = .ok (.slice (some ⟨g,off,none⟩) i cap) w := by
     intro w
     rw [run_slice_h (P := Tryz.prog) w 63 _ _ cap (by rw [he]; exact Tryz.underlying63) .i64 i (by omega) (by omega),he]
     have hcc : ¬ (cap = 0) := by omega
     simp [sizeOf,typeInfo,hi,hz1,sliced,Addr.add,hcc]
    obtain ⟨hcl,hS9,hK9⟩ := SL.out.cleared2 hlen i hij
    have HCL := hq' hcl
    have HL : Hid (L.take i = l.filter (fun x => !toU u x)) := by rw [Hid,DL.out.low,List.take_length]
    have HLn : Hid (i = (l.filter (fun x => !toU u x)).length) := by rw [Hid,← HL.out,List.length_take]; omega
    rw [HL.out] at hS9
    have S9 := hq' hS9
    have K9 := hq' hK9
    clear hcl hS9 hK9 he hi hz0 hz1 hz2
    go_wp2_with (first
     | (refine wpList_clear rfl _ _ rfl _ rfl _ HCL.out ?_))
    go_ret
    refine ⟨_,rfl,rfl,by rw [← HLn.out]; exact S9.out,(KL.out.trans K9.out).mono (fun k _ e => by rw [e]; rfl)⟩
def ClearPost (B pb : Nat) (lv : Value) (n : Nat) (l : List Item) (w : World) (e : Ending) (w' : World) : Prop :=
 e = .returned (.int .i64 ((n : Int) - l.length)) ∧ ∃ lv',BagW w' B pb lv' l ∧ BagK pb lv lv' w w'
theorem bagClear_any (B pb : Nat) (lv : Value) (l : List Item) (u : Int) (w : World) (h : BagW w B pb lv l) (hB : B ≤ w.heap.size) :
  Calls Tryz.prog 17 #[.pointer (some ⟨pb,0,none⟩),.int .i64 u] w (ClearPost B pb lv l.length (l.filter (fun x => !toU u x)) w) := by
 have H0 := hq' h
 have hm := h.m
 clear h
 have BA : Hid (Below w.heap.size w (w.alloc (.cells #[.int .i64 u] 3))) := (Below.refl _ _).alloc (Nat.le_refl _) _
 have CU : Hid (Cl (w.alloc (.cells #[.int .i64 u] 3)) w.heap.size [.int .i64 u] 3) := Cl.new w _ _
 have H1 := hq' (H0.out.below BA.out)
 have HLE : Hid ((l.filter (fun x => !toU u x)).length ≤ l.length) := List.length_filter_le _ _
 go_enter Tryz.func17,Tryz.ntmps17
 go_upto_region 1 with (fail)
 have hlt := H0.out.c.lt
 have hol : Hid (∀ j,lv.ownBlock = some j → j < w.heap.size) := fun j hj => (H0.out.s.lt j hj).2
 have hpu : Hid (∀ j,lv.ownBlock = some j → j ≠ w.heap.size) := fun j hj e => by have := hol.out j hj; omega
 generalize w.alloc (.cells #[.int .i64 u] 3) = w1 at *
 have HL1 := hq' (bagLen_any B pb lv l w1 H1.out)
 have HPU : Hid (pb ≠ w.heap.size) := by rw [Hid]; omega
 have b1 := BA.out.size
 have c1 := H1.out.c.cell 0
 simp only [List.getElem?_cons_zero] at c1
 have HD := hq' (delto_any u l hm w.heap.size B lv w1 H1.out.s CU.out hpu.out)
 unfold clF at HD
 have f1 := H1.out.c.free 0
 generalize w.heap.size = pu at CU HD ⊢
 go_wp2_with fail
 refine HL1.out.mono ?_
 rintro e w2 ⟨rfl,rfl⟩
 by_cases hz : 0 < l.length
 ·have hzi : (0 : Int) < (l.length : Int) := by omega
  go_wp2_with fail
  refine HD.out.mono ?_
  rintro e w3 ⟨v',rfl,hown,hs3,hk3⟩
  obtain ⟨a',cap',hv',_⟩ := hs3.form
  subst hv'
  have S3 := hq' hs3
  have K3 := hq' hk3
  have HOWN := hq' hown
  have P3 := hq' (Cl.keep H1.out.c K3.out (fun e => H1.out.n _ e rfl))
  clear hown hs3 hk3 HD c1
  have c3 := P3.out.cell 0
  have f3 := P3.out.free 0
  simp only [List.getElem?_cons_zero] at c3
  have K4 : Hid (Keeps (fun j => j = pb) w3 (w3.setCell ⟨pb,0,none⟩ (.slice a' (l.filter (fun x => !toU u x)).length cap'))) := Keeps.setCell _ _ _ _ rfl
  have P4 : Hid (Cl (w3.setCell ⟨pb,0,none⟩ (.slice a' (l.filter (fun x => !toU u x)).length cap')) pb [.slice a' (l.filter (fun x => !toU u x)).length cap'] 65) := Cl.set P3.out 0 _
  have hn4 : Hid (∀ j,(Value.slice a' (l.filter (fun x => !toU u x)).length cap').ownBlock = some j → j ≠ pb) := fun j hj => by rw [HOWN.out] at hj; exact H1.out.n j hj
  have H4 : Hid (BagW (w3.setCell ⟨pb,0,none⟩ (.slice a' (l.filter (fun x => !toU u x)).length cap')) B pb (.slice a' (l.filter (fun x => !toU u x)).length cap') (l.filter (fun x => !toU u x))) :=
   ⟨P4.out,S3.out.kept K4.out (fun j hj e => hn4.out j hj e),hn4.out,H1.out.b,Nat.le_trans HLE.out hm⟩
  have B4 : Hid (BagK pb lv (.slice a' (l.filter (fun x => !toU u x)).length cap') w (w3.setCell ⟨pb,0,none⟩ (.slice a' (l.filter (fun x => !toU u x)).length cap'))) := by
   refine (BagK.of BA.out).trans ⟨(K3.out.mono (fun j _ e => .inr e)).trans (K4.out.mono (fun j _ e => .inl e)),fun j hj => .inl (by rw [HOWN.out] at hj; exact hj)⟩
  go_upto_region 4 with (fail)
  generalize w3.setCell ⟨pb,0,none⟩ (.slice a' (l.filter (fun x => !toU u x)).length cap') = w4 at *
  have HL4 := hq' (bagLen_any B pb _ _ w4 H4.out)
  clear c3 f3
  have hle := HLE.out
  generalize hfl : l.filter (fun x => !toU u x) = fl at *
  have hw4 : IntKind.i64.wrap ((l.length : Int) - (fl.length : Int)) = (l.length : Int) - (fl.length : Int) := by rw [IntKind.wrap_i64]; omega
  go_wp2_with fail
  refine HL4.out.mono ?_
  rintro e w5 ⟨rfl,rfl⟩
  go_wp2
  go_ret
  subst hfl
  exact ⟨rfl,_,H4.out,B4.out⟩
 ·have hnil : l = [] := List.length_eq_zero_iff.1 (by omega)
  subst hnil
  go_upto_region 4 with (fail)
  go_wp2_with fail
  refine HL1.out.mono ?_
  rintro e w5 ⟨rfl,rfl⟩
  go_wp2
  go_ret
  exact ⟨rfl,_,H1.out,BagK.of BA.out⟩
open Go.RowKit
theorem blw {w w1 w2 : World} (h : Below w.heap.size w w1) (k : Below w1.heap.size w1 w2) : Below w.heap.size w w2 := bt h k
structure Apart (pb : Nat) (lv : Value) (p : Nat) : Prop where
 b : pb ≠ p
 n : ∀ j,lv.ownBlock = some j → j ≠ p
theorem BagW.apart {w : World} {B pb : Nat} {lv : Value} {l : List Item} {p : Nat} (h : BagW w B pb lv l) (hp : w.heap.size ≤ p) : Apart pb lv p :=
 ⟨by have := h.c.lt; omega,fun j hj => by have := (h.s.lt j hj).2; omega⟩
theorem Apart.next {w w' : World} {pb : Nat} {lv lv' : Value} {p : Nat} (a : Apart pb lv p) (k : BagK pb lv lv' w w') (hp : p < w.heap.size) : Apart pb lv' p :=
 ⟨a.b,fun j hj => by
  rcases k.n j hj with e | e
  ·exact a.n j e
  ·omega⟩
theorem Apart.cl {w w' : World} {pb : Nat} {lv lv' : Value} {p : Nat} {cs : List Value} {t : TypeId} (a : Apart pb lv p) (k : BagK pb lv lv' w w') (c : Cl w p cs t) : Cl w' p cs t :=
 Cl.keep c k.k (fun e => by
  rcases e with e | e
  ·exact a.b e.symm
  ·exact a.n p e rfl)
open Go.RowKit Go.Shelf
attribute [local go_sem] Oper.semAt_some
theorem grown_of_below {w w' : World} (h : Below w.heap.size w w') : w.grownBy w' none := ⟨h.os,h.tape,h.output,h.size,fun k hk _ => h.block k hk⟩
end Go.Proofs.YtbljbdjmgogknaaGreatDoor
namespace Go.Proofs.YtbljbdjmgogknaaGreatDoor.Wi
open Bd (St bInt bText sInt sText sSign sMore sDone inR)
theorem sInt_shr : Shr sInt := fun q hm => by
 obtain ⟨h1,h2,h3⟩ := more_good hm
 cases h : (sInt q).2.2 with
 | true => exact .inl rfl
 | false =>
  right
  obtain ⟨_,_,e⟩ := Cr.sInt_was h
  conv => rhs; rw [e]
  simp [bInt]
  omega
theorem shr_of {α : Type} {f : St → α × St} (h : ∀ q,(f q).2.2 = false → (f q).2.1.length < q.1.length) : Shr f := fun q _ => by
 cases hb : (f q).2.2 with
 | true => exact .inl rfl
 | false => exact .inr (h q hb)
theorem sInt_lt {q : St} (h : (sInt q).2.2 = false) : (sInt q).2.1.length < q.1.length := by
 obtain ⟨_,_,e⟩ := Cr.sInt_was h
 conv => rhs; rw [e]
 simp [bInt]
 omega
theorem sRec4_shr : Shr sRec4 := shr_of fun q h => by
 have h : (sInt (sText 64 (sText 16 (sInt q).2).2).2).2.2 = false := h
 obtain ⟨a1,_⟩ := Cr.sInt_was h
 obtain ⟨b1,_⟩ := Cr.sText_was a1
 obtain ⟨c1,_⟩ := Cr.sText_was b1
 have l1 := sInt_lt c1
 have l2 := sText_len 16 (sInt q).2
 have l3 := sText_len 64 (sText 16 (sInt q).2).2
 have l4 := sInt_len (sText 64 (sText 16 (sInt q).2).2).2
 show (sInt (sText 64 (sText 16 (sInt q).2).2).2).2.1.length < _
 omega
theorem sSign_lt {c : UInt8} {q : St} (h : (sSign c q).2 = false) : (sSign c q).1.length < q.1.length := by
 obtain ⟨_,e⟩ := Cr.sSign_was h
 rw [e]
 simp
theorem sSlot_len (q : St) : (sSlot q).2.1.length ≤ q.1.length :=
 Nat.le_trans (sSign_len _ _) (Nat.le_trans (sInt_len _) (Nat.le_trans (sInt_len _) (Nat.le_trans (sInt_len _) (sSign_len _ _))))
theorem sSlot_shr : Shr sSlot := shr_of fun q h => by
 have h : (sSign 101 (sInt (sInt (sInt (sSign 108 q)).2).2).2).2 = false := h
 have l5 := sSign_lt h
 have l1 := sSign_len 108 q
 have l2 := sInt_len (sSign 108 q)
 have l3 := sInt_len (sInt (sSign 108 q)).2
 have l4 := sInt_len (sInt (sInt (sSign 108 q)).2).2
 show (sSign 101 (sInt (sInt (sInt (sSign 108 q)).2).2).2).1.length < _
 omega
theorem sAll_len {α : Type} {f : St → α × St} (hl : ∀ q,(f q).2.1.length ≤ q.1.length) (q : St) : (sAll f q).2.1.length ≤ q.1.length := sMany_len hl _ q
theorem sSeen_len (q : St) : (sSeen q).2.1.length ≤ q.1.length :=
 Nat.le_trans (sSign_len _ _) (Nat.le_trans (sAll_len sSlot_len _) (Nat.le_trans (sInt_len _) (sSign_len _ _)))
theorem sSeen_shr : Shr sSeen := shr_of fun q h => by
 have h : (sSign 101 (sAll sSlot (sInt (sSign 108 q)).2).2).2 = false := h
 have l5 := sSign_lt h
 have l1 := sSign_len 108 q
 have l2 := sInt_len (sSign 108 q)
 have l3 := sAll_len sSlot_len (sInt (sSign 108 q)).2
 show (sSign 101 (sAll sSlot (sInt (sSign 108 q)).2).2).1.length < _
 omega
theorem sInts_len (q : St) : (sInts q).2.1.length ≤ q.1.length := Nat.le_trans (sSign_len _ _) (Nat.le_trans (sAll_len sInt_len _) (sSign_len _ _))
/-! ### What was read was so written -/
theorem sInt_was {q : St} (h : (sInt q).2.2 = false) : q.2 = false ∧ q.1 = bInt (sInt q).1 ++ (sInt q).2.1 := ⟨(Cr.sInt_was h).1,(Cr.sInt_was h).2.2⟩
theorem flat_pairs : ∀ (l : List (Int × Int)),pairs (flatLives l) = l ∧ evenB (flatLives l) = true
 | [] => ⟨rfl,rfl⟩
 | x::r => by
  obtain ⟨h1,h2⟩ := flat_pairs r
  have e : flatLives (x::r) = x.1::x.2::flatLives r := by simp [flatLives]
  rw [e]
  refine ⟨by rw [pairs,h1],?_⟩
  simp [evenB] at h2 ⊢
  omega
end Go.Proofs.YtbljbdjmgogknaaGreatDoor.Wi
