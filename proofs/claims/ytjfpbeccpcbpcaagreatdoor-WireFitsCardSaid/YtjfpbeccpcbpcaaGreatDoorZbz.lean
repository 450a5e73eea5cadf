/-
  Wsc: texts of one proof, one behind the other.
  Conditions: none of its own.
-/
import Derived.Test.YtjfpbeccpcbpcaaGreatDoorZbf
import Derived.WalkMore
import Derived.ScopeJumps
set_option linter.unusedVariables false
set_option linter.unusedSimpArgs false
namespace Go.Proofs.YtjfpbeccpcbpcaaGreatDoor
open Go.RowKit
theorem infoStr : (Tryz.prog.info? 9).map (fun i => (i.zero, i.size, i.bytes)) = some (some (.string ⟨#[]⟩), 1, 16) := by kernel_rfl
def FStrs (w : World) (B : Nat) (v : Value) (ls : List (List UInt8)) : Prop := w.ownsRow B 9 1 v ls.length (ls.map fun b => Value.string ⟨b.toArray⟩)
def ScanPost (l : List UInt8) (w : World) (e : Ending) (w' : World) : Prop :=
  ∃ v, e = .returned (.tuple #[v, .int .i64 (Frm.scan l).2]) ∧ FStrs w' w.heap.size v (Frm.scan l).1 ∧ Below w.heap.size w w'
theorem FStrs.kept {w w' : World} {B : Nat} {v : Value} {ls : List (List UInt8)} (h : FStrs w B v ls) (hb : Below w.heap.size w w') : FStrs w' B v ls :=
  World.ownsRow.kept (row := none) h ⟨hb.os, hb.tape, hb.output, hb.size, fun k hk _ => hb.block k hk⟩ (by cases hv : v.ownBlock <;> simp)
def ScanAt (l : List UInt8) (w0 : World) (v : Value) (k : Nat) (w : World) : Prop :=
  ∃ acc, FStrs w w0.heap.size v acc ∧ Frm.scan l = (acc ++ (Frm.scanFrom l k).1, (Frm.scanFrom l k).2) ∧ k ≤ l.length ∧ 8 * acc.length ≤ k ∧ Below w0.heap.size w0 w
set_option maxHeartbeats 400000 in
theorem scan_any (l : List UInt8) (w : World) (hm : l.length ≤ 1048576) :
    Calls Tryz.prog 20 #[.string ⟨l.toArray⟩] w (ScanPost l w) := by
  go_enter Tryz.func20, Tryz.ntmps20
  go_wp2
  refine wp_scope_head 0 (fun a' w' => ∃ (v : Value) (k : Nat) (u4 u5 u6 u7 u8 u9 u10 u11 u12 u13 u14 u15 u16 u17 u18 u19 u20 u21 u22 : Value), a' = { tmps := #[.string ⟨l.toArray⟩, undef, v, .int .i64 k, u4, u5, u6, u7, u8, u9, u10, u11, u12, u13, u14, u15, u16, u17, u18, u19, u20, u21, u22], defers := [] } ∧ ScanAt l w v k w') (fun a' _ => l.length - (intOf (a'.tmps.getD 3 undef)).toNat) ⟨.slice none 0 0, 0, undef, undef, undef, undef, undef, undef, undef, undef, undef, undef, undef, undef, undef, undef, undef, undef, undef, undef, undef, rfl, [], World.ownsRow_nil _ _ _ _, rfl, by omega, by simp, Below.refl _ _⟩ ?_
  rintro a' wr ⟨v, k, u4, u5, u6, u7, u8, u9, u10, u11, u12, u13, u14, u15, u16, u17, u18, u19, u20, u21, u22, rfl, hs⟩
  obtain ⟨acc, hown, hscan, hk, h8, hbel⟩ := hs
  have HO := Lib.hid hown
  have HS := Lib.hid hscan
  have HB := Lib.hid hbel
  clear hown hscan hbel
  go_wp2_with fail
  refine (next_any _ _ _ (by unfold maxLen; omega)).mono ?_
  rintro e w1 ⟨rfl, hb1⟩
  have HB1 := Lib.hid hb1
  clear hb1
  have hb2 := HB.out.trans (HB1.out.mono HB.out.size)
  have HW := Lib.hid (HO.out.kept HB1.out)
  by_cases hz : (Frm.next l k).2.2 = 0
  · obtain ⟨h1, h2, h3, h4, h5, h6⟩ := Frm.next_zero hz
    have e4 : (Frm.next l k).2.1 = ((k + 8 + (Crc.num (l.drop k)).toNat : Nat) : Int) := by rw [h4]; omega
    have HM := Lib.hid (Frm.scan_more hz e4)
    rw [hz, e4]
    clear h3 h4 h5 h6 hz e4 h2
    generalize (Frm.next l k).1 = b at HM
    have hkm : k + 8 ≤ k + 8 + (Crc.num (l.drop k)).toNat := by omega
    generalize k + 8 + (Crc.num (l.drop k)).toNat = m at h1 HM hkm
    obtain ⟨i0, hi, hz0, hz1, hz2⟩ := info_parts infoStr
    have hown := HW.out
    have hsz : w.heap.size ≤ w1.heap.size := hb2.size
    go_wp2_with (at_builtin; refine wpList_append_own _ rfl _ _ 51 rfl w.heap.size 9 i0 (.string ⟨#[]⟩) 1 16 Tryz.underlying51 hi hz0 hz1 hz2 rfl (by decide) _ _ _ rfl (World.ownsRow.alloc hown _) ⟨w1.heap.size, 0, none⟩ 1 1 [.string ⟨b.toArray⟩] rfl rfl (cell_one_new _ _ _) ?_ ?_ ?_ ?_ ?_)
    · simp [Value.oneCell']
    · unfold maxLen; omega
    · omega
    · simp; omega
    intro v' w2 hown2 hg2 _
    have HN : Hid (ScanAt l w v' m w2) := ⟨acc ++ [b], by simpa [FStrs] using hown2, by rw [HS.out, HM.out]; simp, h1, by simp; omega, hb2.trans (((Below.refl _ _).alloc hb2.size _).grown hg2 (by simp; omega) (fun kk hkk => (hown.lt kk hkk).1))⟩
    clear hown hown2 hg2
    go_wp2
    go_step3
    refine ⟨rfl, ⟨v', m, _, _, _, _, _, _, _, _, _, _, _, _, _, _, _, _, _, _, _, rfl, HN.out⟩, ?_⟩
    simp [intOf]
    omega
  · have hz1 : ((Frm.next l k).2.2 != 0) = true := by rw [bne_iff_ne]; exact hz
    have hE := Lib.hid (@Frm.scan_end l k hz)
    clear hz
    go_wp2
    simp only [Exit.jump]
    go_ret2
    have e := HS.out
    rw [hE.out, List.append_nil] at e
    rw [ScanPost, e]
    exact ⟨v, rfl, HW.out, hb2⟩
end Go.Proofs.YtjfpbeccpcbpcaaGreatDoor
