/-
  Bag: beats; Put and Take at them; the statement's beat; Put of what is no message (printed by wip/gen/mkbag3.py).
  Conditions: to whom, and which: small.
-/
import Derived.Test.YtbljbdjmgogknaaGreatDoorGc
import Derived.Test.YtbljbdjmgogknaaGreatDoorWg0
import Derived.Test.YtbljbdjmgogknaaGreatDoorCrs
set_option linter.unusedVariables false
set_option linter.unusedSimpArgs false
namespace Go.Proofs.YtbljbdjmgogknaaGreatDoor
open Go.RowKit

/-- A beat's bytes, to whom. -/
def bItem (t n : Int) : Item := (Frm.put (beatB (beatM 1 t n)), t)
theorem beat_first {t n : Int} (h0 : 0 ≤ t) (h5 : t ≤ 5) (n0 : 0 ≤ n) (n1 : n ≤ 1073741824) : Wi.first (beatM 1 t n) = true := by
  have ho : Wi.only (beatM 1 t n) = beatM 1 t n := by simp [Wi.only, beatM]
  unfold Wi.first
  rw [ho, Wi.same_refl]
  simp [beatM, Wi.inB, Wi.unitB, Wi.areB]
  exact ⟨.inl ⟨decide_eq_true h0, decide_eq_true h5⟩, n0, n1⟩
theorem beat_ok {t n : Int} (h0 : 0 ≤ t) (h5 : t ≤ 5) (n0 : 0 ≤ n) (n1 : n ≤ 1073741824) : MsgOk (beatM 1 t n) := by
  have z : Bd.inR 0 := ⟨by decide, by decide⟩
  constructor
  · intro x hx
    simp only [beatM, Wi.zReq, Wi.zResp, List.mem_cons, List.not_mem_nil, or_false] at hx
    unfold Bd.inR
    omega
  · exact ⟨by simp [beatM], by simp [beatM]⟩
  · exact ⟨by simp [beatM], by simp [beatM]⟩
  · exact ⟨z, z, z, z, z, by simp [beatM, Wi.zBatch], by simp [beatM, Wi.zBatch]⟩
  · exact ⟨by simp [beatM], by simp [beatM]⟩
  · exact ⟨by simp [beatM, Wi.zReq], by simp [beatM, Wi.zReq], by simp [beatM, Wi.zReq], by simp [beatM, Wi.zReq]⟩
  · exact ⟨by simp [beatM, Wi.zResp], by simp [beatM, Wi.zResp]⟩
  · exact ⟨by simp [beatM, Wi.zResp], by simp [beatM, Wi.zResp]⟩
theorem beat_len {t n : Int} (h0 : 0 ≤ t) (h5 : t ≤ 5) (n0 : 0 ≤ n) (n1 : n ≤ 1073741824) : (beatB (beatM 1 t n)).length ≤ 16384 := by
  have a := (Cr.bInt_len (n := 3) (by omega) (by omega)).2
  have b := (Cr.bInt_len (n := 1) (by omega) (by omega)).2
  have c := (Cr.bInt_len (n := t) (by omega) (by omega)).2
  have d := (Cr.bInt_len (n := n) (by omega) (by omega)).2
  rw [beatB_eq]
  simp only [List.length_cons, List.length_append, List.length_nil]
  omega
theorem bagPut_b (B pb : Nat) (lv : Value) (l : List Item) (t n : Int) (h0 : 0 ≤ t) (h5 : t ≤ 5) (n0 : 0 ≤ n) (n1 : n ≤ 1073741824) (w : World) (h : BagW w B pb lv l) (hB : B ≤ w.heap.size) (hw : Lw w) :
    Calls Tryz.prog 10 #[.pointer (some ⟨pb, 0, none⟩), msgV (beatM 1 t n) zeroV] w (PutPost B pb lv l (bItem t n) w) :=
  bagPut_beat B pb lv l 1 t n _ w h hB (fun W hW => encode_k3 _ _ W (beat_at 1 t n W) (beat_ok h0 h5 n0 n1) rfl (beat_first h0 h5 n0 n1) (beat_len h0 h5 n0 n1) (hw.below hW))
def TakeB (B pb : Nat) (lv : Value) (l : List Item) (t n : Int) (w : World) (e : Ending) (w' : World) : Prop :=
  e = .returned (.tuple #[msgV (beatM 1 t n) zeroV, .bool true]) ∧ ∃ lv', BagW w' B pb lv' l ∧ BagK pb lv lv' w w'
theorem bagTake_b (B pb : Nat) (lv : Value) (l : List Item) (k : Nat) (t n : Int) (hx : l[k]? = some (bItem t n)) (h0 : 0 ≤ t) (h5 : t ≤ 5) (n0 : 0 ≤ n) (n1 : n ≤ 1073741824) (w : World) (h : BagW w B pb lv l) (hB : B ≤ w.heap.size) (hw : Lw w) :
    Calls Tryz.prog 12 #[.pointer (some ⟨pb, 0, none⟩), .int .i64 k] w (TakeB B pb lv (l.eraseIdx k) t n w) := by
  refine (bagTake_any B pb lv l k _ hx (fun cs _ => cs = msgC (beatM 1 t n) zeroV) w h hB (fun W hW => ?_)).mono ?_
  · refine (decode_beat 1 t n W ⟨by decide, by decide⟩ ⟨by omega, by omega⟩ ⟨by omega, by omega⟩ (beat_first h0 h5 n0 n1) (beat_ok h0 h5 n0 n1) (beat_len h0 h5 n0 n1) (hw.below hW)).mono ?_
    rintro e w' ⟨rfl, hb⟩
    exact ⟨msgC (beatM 1 t n) zeroV, rfl, rfl, by simp [msgC, zeroV, Value.oneCell'], hb, fun _ _ _ _ => rfl⟩
  · rintro e w' ⟨cs, lv', rfl, rfl, h1, h2⟩
    exact ⟨rfl, lv', h1, h2⟩
set_option maxRecDepth 20000 in
set_option maxHeartbeats 3200000 in
theorem bagPut_no (cs : List Value) (hlen : cs.length = 38) (B pb : Nat) (lv : Value) (l : List Item) (w : World) (h : BagW w B pb lv l) (hB : B ≤ w.heap.size)
    (HE : ∀ W, Below w.heap.size w W → Calls Tryz.prog 23 #[.agg cs.toArray] W fun e w' => e = .returned (.tuple #[.string ⟨#[]⟩, .int .i64 1]) ∧ Below W.heap.size W w') :
    Calls Tryz.prog 10 #[.pointer (some ⟨pb, 0, none⟩), .agg cs.toArray] w fun e w' => e = .returned (.int .i64 1) ∧ BagW w' B pb lv l ∧ Below w.heap.size w w' := by
  have H0 := Lib.hid h
  have HEE := Lib.hid HE
  have HIL : Hid ((Tryz.prog.info? 44).map (·.size) = some cs.length) := by rw [Hid, hlen]; kernel_rfl
  clear h HE hlen
  go_enter Tryz.func10, Tryz.ntmps10
  obtain ⟨w1, hw1, CA, B1⟩ := oneBox (w := w) cs 44
  have HW1 := Lib.hid hw1
  clear hw1
  go_upto_region 3 with (fail)
  first | rw [HW1.out] | skip
  clear HW1
  have H1 := Lib.hid (H0.out.below B1.out)
  have HE1 := Lib.hid (HEE.out _ B1.out)
  have R1 := Lib.hid CA.out.range
  obtain ⟨pa, hpa⟩ : ∃ pa, pa = w.heap.size := ⟨_, rfl⟩
  rw [← hpa] at R1
  first | rw [← hpa] | skip
  have HPA := Lib.hid hpa
  clear hpa CA
  go_wp2_with (refine wpList_load_mid (by rfl) _ _ (by rfl) pa 0 (by rfl) cs _ R1.out Tryz.underlying44 (by rfl) HIL.out ?_)
  refine HE1.out.mono ?_
  rintro e w2 ⟨rfl, hb2⟩
  have H2 := Lib.hid (H1.out.below hb2)
  have B2 := Lib.hid (bt B1.out hb2)
  clear hb2
  go_wp2
  go_ret
  exact ⟨rfl, H2.out, B2.out⟩
theorem bagPut_zero (B pb : Nat) (lv : Value) (l : List Item) (w : World) (h : BagW w B pb lv l) (hB : B ≤ w.heap.size) :
    Calls Tryz.prog 10 #[.pointer (some ⟨pb, 0, none⟩), .agg (.int .i64 0 :: .int .i64 0 :: .int .i64 0 :: .int .i64 0 :: .int .i64 0 :: .int .i64 0 :: .int .i64 0 :: .int .i64 0 :: .int .i64 0 :: .slice none 0 0 :: .int .i64 0 :: .slice none 0 0 :: .int .i64 0 :: .int .i64 0 :: .int .i64 0 :: .int .i64 0 :: .int .i64 0 :: .slice none 0 0 :: .slice none 0 0 :: .int .i64 0 :: .int .i64 0 :: .int .i64 0 :: .int .i64 0 :: .int .i64 0 :: .int .i64 0 :: .int .i64 0 :: .int .i64 0 :: .string ⟨#[]⟩ :: .string ⟨#[]⟩ :: .slice none 0 0 :: .int .i64 0 :: .int .i64 0 :: .int .i64 0 :: .int .i64 0 :: .int .i64 0 :: .int .i64 0 :: .slice none 0 0 :: .slice none 0 0 :: []).toArray] w fun e w' => e = .returned (.int .i64 1) ∧ BagW w' B pb lv l ∧ Below w.heap.size w w' :=
  bagPut_no _ rfl B pb lv l w h hB (fun W hW => encode_no _ rfl W (fun W2 hW2 => good_none _ 0 rfl (by decide) W2))
set_option maxRecDepth 20000 in
set_option maxHeartbeats 3200000 in
theorem beat_any (n : Int) (w : World) : Calls Tryz.prog 21 #[.int .i64 n] w fun e w' => e = .returned (msgV (beatM 1 0 n) zeroV) ∧ Below w.heap.size w w' := by
  have HRV : Hid (msgV (beatM 1 0 n) zeroV = .agg (.int .i64 3 :: .int .i64 1 :: .int .i64 0 :: .int .i64 0 :: .int .i64 0 :: .int .i64 0 :: .int .i64 0 :: .int .i64 n :: .int .i64 0 :: .slice none 0 0 :: .int .i64 0 :: .slice none 0 0 :: .int .i64 0 :: .int .i64 0 :: .int .i64 0 :: .int .i64 0 :: .int .i64 0 :: .slice none 0 0 :: .slice none 0 0 :: .int .i64 0 :: .int .i64 0 :: .int .i64 0 :: .int .i64 0 :: .int .i64 0 :: .int .i64 0 :: .int .i64 0 :: .int .i64 0 :: .string ⟨#[]⟩ :: .string ⟨#[]⟩ :: .slice none 0 0 :: .int .i64 0 :: .int .i64 0 :: .int .i64 0 :: .int .i64 0 :: .int .i64 0 :: .int .i64 0 :: .slice none 0 0 :: .slice none 0 0 :: []).toArray) := rfl
  rw [HRV.out]
  clear HRV
  have HI38 := Lib.hid (show (Tryz.prog.info? 44).map (·.size) = some ((.int .i64 3 :: .int .i64 1 :: .int .i64 0 :: .int .i64 0 :: .int .i64 0 :: .int .i64 0 :: .int .i64 0 :: .int .i64 n :: .int .i64 0 :: .slice none 0 0 :: .int .i64 0 :: .slice none 0 0 :: .int .i64 0 :: .int .i64 0 :: .int .i64 0 :: .int .i64 0 :: .int .i64 0 :: .slice none 0 0 :: .slice none 0 0 :: .int .i64 0 :: .int .i64 0 :: .int .i64 0 :: .int .i64 0 :: .int .i64 0 :: .int .i64 0 :: .int .i64 0 :: .int .i64 0 :: .string ⟨#[]⟩ :: .string ⟨#[]⟩ :: .slice none 0 0 :: .int .i64 0 :: .int .i64 0 :: .int .i64 0 :: .int .i64 0 :: .int .i64 0 :: .int .i64 0 :: .slice none 0 0 :: .slice none 0 0 :: []) : List Value).length by kernel_rfl)
  have HI39 := Lib.hid (show (Tryz.prog.info? 44).map (·.size) = some ((.int .i64 3 :: .int .i64 1 :: .int .i64 0 :: .int .i64 0 :: .int .i64 0 :: .int .i64 0 :: .int .i64 0 :: .int .i64 n :: .int .i64 0 :: .slice none 0 0 :: .int .i64 0 :: .slice none 0 0 :: .int .i64 0 :: .int .i64 0 :: .int .i64 0 :: .int .i64 0 :: .int .i64 0 :: .slice none 0 0 :: .slice none 0 0 :: .int .i64 0 :: .int .i64 0 :: .int .i64 0 :: .int .i64 0 :: .int .i64 0 :: .int .i64 0 :: .int .i64 0 :: .int .i64 0 :: .string ⟨#[]⟩ :: .string ⟨#[]⟩ :: .slice none 0 0 :: .int .i64 0 :: .int .i64 0 :: .int .i64 0 :: .int .i64 0 :: .int .i64 0 :: .int .i64 0 :: .slice none 0 0 :: .slice none 0 0 :: []).toArray : Array Value).size by kernel_rfl)
  have HONE : Hid (((.int .i64 3 :: .int .i64 1 :: .int .i64 0 :: .int .i64 0 :: .int .i64 0 :: .int .i64 0 :: .int .i64 0 :: .int .i64 n :: .int .i64 0 :: .slice none 0 0 :: .int .i64 0 :: .slice none 0 0 :: .int .i64 0 :: .int .i64 0 :: .int .i64 0 :: .int .i64 0 :: .int .i64 0 :: .slice none 0 0 :: .slice none 0 0 :: .int .i64 0 :: .int .i64 0 :: .int .i64 0 :: .int .i64 0 :: .int .i64 0 :: .int .i64 0 :: .int .i64 0 :: .int .i64 0 :: .string ⟨#[]⟩ :: .string ⟨#[]⟩ :: .slice none 0 0 :: .int .i64 0 :: .int .i64 0 :: .int .i64 0 :: .int .i64 0 :: .int .i64 0 :: .int .i64 0 :: .slice none 0 0 :: .slice none 0 0 :: []).toArray : Array Value).all (·.oneCell') = true) := by simp [Hid, Value.oneCell']
  have HSZ : Hid (((.int .i64 0 :: .int .i64 0 :: .int .i64 0 :: .int .i64 0 :: .int .i64 0 :: .int .i64 0 :: .int .i64 0 :: .int .i64 0 :: .int .i64 0 :: .slice none 0 0 :: .int .i64 0 :: .slice none 0 0 :: .int .i64 0 :: .int .i64 0 :: .int .i64 0 :: .int .i64 0 :: .int .i64 0 :: .slice none 0 0 :: .slice none 0 0 :: .int .i64 0 :: .int .i64 0 :: .int .i64 0 :: .int .i64 0 :: .int .i64 0 :: .int .i64 0 :: .int .i64 0 :: .int .i64 0 :: .string ⟨#[]⟩ :: .string ⟨#[]⟩ :: .slice none 0 0 :: .int .i64 0 :: .int .i64 0 :: .int .i64 0 :: .int .i64 0 :: .int .i64 0 :: .int .i64 0 :: .slice none 0 0 :: .slice none 0 0 :: []).toArray : Array Value).size = ((.int .i64 3 :: .int .i64 1 :: .int .i64 0 :: .int .i64 0 :: .int .i64 0 :: .int .i64 0 :: .int .i64 0 :: .int .i64 n :: .int .i64 0 :: .slice none 0 0 :: .int .i64 0 :: .slice none 0 0 :: .int .i64 0 :: .int .i64 0 :: .int .i64 0 :: .int .i64 0 :: .int .i64 0 :: .slice none 0 0 :: .slice none 0 0 :: .int .i64 0 :: .int .i64 0 :: .int .i64 0 :: .int .i64 0 :: .int .i64 0 :: .int .i64 0 :: .int .i64 0 :: .int .i64 0 :: .string ⟨#[]⟩ :: .string ⟨#[]⟩ :: .slice none 0 0 :: .int .i64 0 :: .int .i64 0 :: .int .i64 0 :: .int .i64 0 :: .int .i64 0 :: .int .i64 0 :: .slice none 0 0 :: .slice none 0 0 :: []).toArray : Array Value).size) := rfl
  go_enter Tryz.func21, Tryz.ntmps21
  obtain ⟨w1, hw1, CR, B1⟩ := oneBox (w := w) (.int .i64 0 :: .int .i64 0 :: .int .i64 0 :: .int .i64 0 :: .int .i64 0 :: .int .i64 0 :: .int .i64 0 :: .int .i64 0 :: .int .i64 0 :: .slice none 0 0 :: .int .i64 0 :: .slice none 0 0 :: .int .i64 0 :: .int .i64 0 :: .int .i64 0 :: .int .i64 0 :: .int .i64 0 :: .slice none 0 0 :: .slice none 0 0 :: .int .i64 0 :: .int .i64 0 :: .int .i64 0 :: .int .i64 0 :: .int .i64 0 :: .int .i64 0 :: .int .i64 0 :: .int .i64 0 :: .string ⟨#[]⟩ :: .string ⟨#[]⟩ :: .slice none 0 0 :: .int .i64 0 :: .int .i64 0 :: .int .i64 0 :: .int .i64 0 :: .int .i64 0 :: .int .i64 0 :: .slice none 0 0 :: .slice none 0 0 :: []) 44
  have HW1 := Lib.hid hw1
  clear hw1
  go_upto_region 1 with (fail)
  first | rw [HW1.out] | skip
  clear HW1
  have CQ : Hid (w1.heap[w.heap.size]? = some (.cells (.int .i64 0 :: .int .i64 0 :: .int .i64 0 :: .int .i64 0 :: .int .i64 0 :: .int .i64 0 :: .int .i64 0 :: .int .i64 0 :: .int .i64 0 :: .slice none 0 0 :: .int .i64 0 :: .slice none 0 0 :: .int .i64 0 :: .int .i64 0 :: .int .i64 0 :: .int .i64 0 :: .int .i64 0 :: .slice none 0 0 :: .slice none 0 0 :: .int .i64 0 :: .int .i64 0 :: .int .i64 0 :: .int .i64 0 :: .int .i64 0 :: .int .i64 0 :: .int .i64 0 :: .int .i64 0 :: .string ⟨#[]⟩ :: .string ⟨#[]⟩ :: .slice none 0 0 :: .int .i64 0 :: .int .i64 0 :: .int .i64 0 :: .int .i64 0 :: .int .i64 0 :: .int .i64 0 :: .slice none 0 0 :: .slice none 0 0 :: []).toArray 44 (0, 0))) := CR.out
  have CF : Hid (Cl (w1.setRow w.heap.size (.int .i64 3 :: .int .i64 1 :: .int .i64 0 :: .int .i64 0 :: .int .i64 0 :: .int .i64 0 :: .int .i64 0 :: .int .i64 n :: .int .i64 0 :: .slice none 0 0 :: .int .i64 0 :: .slice none 0 0 :: .int .i64 0 :: .int .i64 0 :: .int .i64 0 :: .int .i64 0 :: .int .i64 0 :: .slice none 0 0 :: .slice none 0 0 :: .int .i64 0 :: .int .i64 0 :: .int .i64 0 :: .int .i64 0 :: .int .i64 0 :: .int .i64 0 :: .int .i64 0 :: .int .i64 0 :: .string ⟨#[]⟩ :: .string ⟨#[]⟩ :: .slice none 0 0 :: .int .i64 0 :: .int .i64 0 :: .int .i64 0 :: .int .i64 0 :: .int .i64 0 :: .int .i64 0 :: .slice none 0 0 :: .slice none 0 0 :: []).toArray) w.heap.size (.int .i64 3 :: .int .i64 1 :: .int .i64 0 :: .int .i64 0 :: .int .i64 0 :: .int .i64 0 :: .int .i64 0 :: .int .i64 n :: .int .i64 0 :: .slice none 0 0 :: .int .i64 0 :: .slice none 0 0 :: .int .i64 0 :: .int .i64 0 :: .int .i64 0 :: .int .i64 0 :: .int .i64 0 :: .slice none 0 0 :: .slice none 0 0 :: .int .i64 0 :: .int .i64 0 :: .int .i64 0 :: .int .i64 0 :: .int .i64 0 :: .int .i64 0 :: .int .i64 0 :: .int .i64 0 :: .string ⟨#[]⟩ :: .string ⟨#[]⟩ :: .slice none 0 0 :: .int .i64 0 :: .int .i64 0 :: .int .i64 0 :: .int .i64 0 :: .int .i64 0 :: .int .i64 0 :: .slice none 0 0 :: .slice none 0 0 :: []) 44) := CR.out.row _
  have KF : Hid (Keeps (fun j => j = w.heap.size) w1 (w1.setRow w.heap.size (.int .i64 3 :: .int .i64 1 :: .int .i64 0 :: .int .i64 0 :: .int .i64 0 :: .int .i64 0 :: .int .i64 0 :: .int .i64 n :: .int .i64 0 :: .slice none 0 0 :: .int .i64 0 :: .slice none 0 0 :: .int .i64 0 :: .int .i64 0 :: .int .i64 0 :: .int .i64 0 :: .int .i64 0 :: .slice none 0 0 :: .slice none 0 0 :: .int .i64 0 :: .int .i64 0 :: .int .i64 0 :: .int .i64 0 :: .int .i64 0 :: .int .i64 0 :: .int .i64 0 :: .int .i64 0 :: .string ⟨#[]⟩ :: .string ⟨#[]⟩ :: .slice none 0 0 :: .int .i64 0 :: .int .i64 0 :: .int .i64 0 :: .int .i64 0 :: .int .i64 0 :: .int .i64 0 :: .slice none 0 0 :: .slice none 0 0 :: []).toArray)) := Keeps.row _ _ _ rfl
  have BF : Hid (Below w.heap.size w (w1.setRow w.heap.size (.int .i64 3 :: .int .i64 1 :: .int .i64 0 :: .int .i64 0 :: .int .i64 0 :: .int .i64 0 :: .int .i64 0 :: .int .i64 n :: .int .i64 0 :: .slice none 0 0 :: .int .i64 0 :: .slice none 0 0 :: .int .i64 0 :: .int .i64 0 :: .int .i64 0 :: .int .i64 0 :: .int .i64 0 :: .slice none 0 0 :: .slice none 0 0 :: .int .i64 0 :: .int .i64 0 :: .int .i64 0 :: .int .i64 0 :: .int .i64 0 :: .int .i64 0 :: .int .i64 0 :: .int .i64 0 :: .string ⟨#[]⟩ :: .string ⟨#[]⟩ :: .slice none 0 0 :: .int .i64 0 :: .int .i64 0 :: .int .i64 0 :: .int .i64 0 :: .int .i64 0 :: .int .i64 0 :: .slice none 0 0 :: .slice none 0 0 :: []).toArray)) := B1.out.trans (KF.out.toBelow B1.out.size (fun j hj e => by omega))
  go_wp2_with (refine wpList_store_row (by rfl) _ _ _ (by rfl) w.heap.size (.int .i64 3 :: .int .i64 1 :: .int .i64 0 :: .int .i64 0 :: .int .i64 0 :: .int .i64 0 :: .int .i64 0 :: .int .i64 n :: .int .i64 0 :: .slice none 0 0 :: .int .i64 0 :: .slice none 0 0 :: .int .i64 0 :: .int .i64 0 :: .int .i64 0 :: .int .i64 0 :: .int .i64 0 :: .slice none 0 0 :: .slice none 0 0 :: .int .i64 0 :: .int .i64 0 :: .int .i64 0 :: .int .i64 0 :: .int .i64 0 :: .int .i64 0 :: .int .i64 0 :: .int .i64 0 :: .string ⟨#[]⟩ :: .string ⟨#[]⟩ :: .slice none 0 0 :: .int .i64 0 :: .int .i64 0 :: .int .i64 0 :: .int .i64 0 :: .int .i64 0 :: .int .i64 0 :: .slice none 0 0 :: .slice none 0 0 :: []).toArray (by rfl) (by rfl) 44 _ CQ.out HI39.out HSZ.out HONE.out ?_)
  refine bodyPost_ret (results_cl rfl _ _ _ _ _ _ rfl CF.out Tryz.underlying44 rfl HI38.out) rfl ?_
  exact ⟨rfl, BF.out⟩

end Go.Proofs.YtbljbdjmgogknaaGreatDoor
