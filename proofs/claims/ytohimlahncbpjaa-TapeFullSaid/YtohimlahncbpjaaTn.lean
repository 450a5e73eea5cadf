/-
  The tape's Names: slices.Sorted(maps.Keys(..)), by the shelf's contracts.
  Conditions: none but the tape's form.
-/
import Derived.Test.YtohimlahncbpjaaTk
import Derived.Shelf.SlIter.Nil
import Derived.Shelf.SortM.Plain
import Derived.Shelf.SortM.SortNone
import Derived.Ground.GgzProg
import Derived.Ground.SlgmProg
set_option linter.unusedVariables false
set_option linter.unusedSimpArgs false
namespace Go.Proofs
open Go.RowKit Go.Maps Go.Sort Go.Shelf

def Try.keysA_ren : Go.Shelf.Ren := ⟨fun | 7 => 24 | 10 => 31 | n => n, fun | 23 => 48 | 26 => 9 | 3 => 51 | 28 => 58 | 0 => 0 | 27 => 57 | 33 => 61 | 4 => 4 | n => n, fun | n => n⟩
theorem Try.keysA : Go.Proofs.SlLaysZ.n7 Try.prog Try.keysA_ren := {
  mixed := by kernel_rfl
  f7 := ⟨Try.f24.name, by decide, Try.func24.trans (congrArg some (by kernel_rfl))⟩
  f10 := ⟨Try.f31.name, by decide, Try.func31.trans (congrArg some (by kernel_rfl))⟩
  t0 := Try.underlying0
  a0 := Try.isAgg0
  z0 := Try.sizeOf0
  v0 := Try.zeroValue0
  t4 := Try.underlying4
  a4 := Try.isAgg4
  z4 := Try.sizeOf4
  v4 := Try.zeroValue4
  t23 := Try.underlying48
  a23 := Try.isAgg48
  z23 := Try.sizeOf48
  v23 := Try.zeroValue48
  t26 := Try.underlying9
  a26 := Try.isAgg9
  z26 := Try.sizeOf9
  v26 := Try.zeroValue9
  t27 := Try.underlying57
  a27 := Try.isAgg57
  z27 := Try.sizeOf57
  v27 := Try.zeroValue57
  t28 := Try.underlying58
  a28 := Try.isAgg58
  z28 := Try.sizeOf58
  v28 := Try.zeroValue58
  t33 := Try.underlying61
  a33 := Try.isAgg61
  z33 := Try.sizeOf61
  v33 := Try.zeroValue61 }
def Try.sortedA_ren : Go.Shelf.Ren := ⟨fun | 6 => 23 | 8 => 29 | 9 => 30 | 11 => 32 | 13 => 34 | 12 => 33 | 23 => 44 | 24 => 45 | 14 => 35 | 15 => 36 | 16 => 37 | 17 => 38 | 18 => 39 | 19 => 40 | 20 => 41 | 21 => 42 | 22 => 43 | 25 => 46 | 26 => 47 | 27 => 48 | 28 => 49 | 29 => 50 | 30 => 51 | 31 => 52 | n => n, fun | 26 => 9 | 28 => 58 | 24 => 33 | 0 => 0 | 3 => 3 | 37 => 24 | 48 => 77 | 50 => 79 | 4 => 4 | 40 => 69 | 39 => 68 | 45 => 74 | 5 => 5 | 9 => 9 | 51 => 80 | 55 => 84 | 57 => 86 | 58 => 87 | 33 => 61 | n => n, fun | n => n⟩
theorem Try.sortedA : Go.Proofs.SlLaysZ.n6 Try.prog Try.sortedA_ren := {
  mixed := by kernel_rfl
  f6 := ⟨Try.f23.name, by decide, Try.func23.trans (congrArg some (by kernel_rfl))⟩
  f8 := ⟨Try.f29.name, by decide, Try.func29.trans (congrArg some (by kernel_rfl))⟩
  f11 := ⟨Try.f32.name, by decide, Try.func32.trans (congrArg some (by kernel_rfl))⟩
  t0 := Try.underlying0
  a0 := Try.isAgg0
  z0 := Try.sizeOf0
  v0 := Try.zeroValue0
  t24 := Try.underlying33
  a24 := Try.isAgg33
  z24 := Try.sizeOf33
  v24 := Try.zeroValue33
  t26 := Try.underlying9
  a26 := Try.isAgg9
  z26 := Try.sizeOf9
  v26 := Try.zeroValue9
  t28 := Try.underlying58
  a28 := Try.isAgg58
  z28 := Try.sizeOf58
  v28 := Try.zeroValue58
  i26 := by kernel_rfl }
def Try.sortA_ren : Go.Shelf.Ren := ⟨fun | 6 => 30 | 8 => 34 | 9 => 33 | 19 => 44 | 20 => 45 | 21 => 35 | 22 => 36 | 23 => 37 | 24 => 38 | 25 => 39 | 26 => 40 | 27 => 41 | 28 => 42 | 29 => 43 | 36 => 46 | 31 => 47 | 32 => 48 | 37 => 49 | 38 => 50 | 39 => 51 | 41 => 52 | n => n, fun | 27 => 33 | 29 => 9 | 3 => 3 | 32 => 24 | 26 => 33 | 0 => 0 | 44 => 77 | 46 => 79 | 4 => 4 | 36 => 69 | 35 => 68 | 41 => 74 | 5 => 5 | 9 => 9 | 53 => 80 | 57 => 84 | 63 => 86 | 64 => 87 | n => n, fun | n => n⟩
theorem Try.sortA : Go.Proofs.SlLaysM.n6 Try.prog Try.sortA_ren := {
  mixed := by kernel_rfl
  f6 := ⟨Try.f30.name, by decide, Try.func30.trans (congrArg some (by kernel_rfl))⟩
  f8 := Try.func34.trans (congrArg some (by kernel_rfl))
  f9 := ⟨Try.f33.name, by decide, Try.func33.trans (congrArg some (by kernel_rfl))⟩
  f19 := Try.func44.trans (congrArg some (by kernel_rfl))
  f20 := Try.func45.trans (congrArg some (by kernel_rfl))
  f21 := ⟨Try.f35.name, by decide, Try.func35.trans (congrArg some (by kernel_rfl))⟩
  f22 := ⟨Try.f36.name, by decide, Try.func36.trans (congrArg some (by kernel_rfl))⟩
  f23 := ⟨Try.f37.name, by decide, Try.func37.trans (congrArg some (by kernel_rfl))⟩
  f24 := ⟨Try.f38.name, by decide, Try.func38.trans (congrArg some (by kernel_rfl))⟩
  f25 := ⟨Try.f39.name, by decide, Try.func39.trans (congrArg some (by kernel_rfl))⟩
  f26 := ⟨Try.f40.name, by decide, Try.func40.trans (congrArg some (by kernel_rfl))⟩
  f27 := ⟨Try.f41.name, by decide, Try.func41.trans (congrArg some (by kernel_rfl))⟩
  f28 := ⟨Try.f42.name, by decide, Try.func42.trans (congrArg some (by kernel_rfl))⟩
  f29 := ⟨Try.f43.name, by decide, Try.func43.trans (congrArg some (by kernel_rfl))⟩
  f31 := Try.func47.trans (congrArg some (by kernel_rfl))
  f32 := Try.func48.trans (congrArg some (by kernel_rfl))
  f36 := ⟨Try.f46.name, by decide, Try.func46.trans (congrArg some (by kernel_rfl))⟩
  f37 := ⟨Try.f49.name, by decide, Try.func49.trans (congrArg some (by kernel_rfl))⟩
  f38 := ⟨Try.f50.name, by decide, Try.func50.trans (congrArg some (by kernel_rfl))⟩
  f39 := ⟨Try.f51.name, by decide, Try.func51.trans (congrArg some (by kernel_rfl))⟩
  f41 := ⟨Try.f52.name, by decide, Try.func52.trans (congrArg some (by kernel_rfl))⟩
  t0 := Try.underlying0
  a0 := Try.isAgg0
  z0 := Try.sizeOf0
  v0 := Try.zeroValue0
  t3 := Try.underlying3
  a3 := Try.isAgg3
  z3 := Try.sizeOf3
  v3 := Try.zeroValue3
  t4 := Try.underlying4
  a4 := Try.isAgg4
  z4 := Try.sizeOf4
  v4 := Try.zeroValue4
  t5 := Try.underlying5
  a5 := Try.isAgg5
  z5 := Try.sizeOf5
  v5 := Try.zeroValue5
  t9 := Try.underlying9
  a9 := Try.isAgg9
  z9 := Try.sizeOf9
  v9 := Try.zeroValue9
  t26 := Try.underlying33
  a26 := Try.isAgg33
  z26 := Try.sizeOf33
  v26 := Try.zeroValue33
  t27 := Try.underlying33
  a27 := Try.isAgg33
  z27 := Try.sizeOf33
  v27 := Try.zeroValue33
  t29 := Try.underlying9
  a29 := Try.isAgg9
  z29 := Try.sizeOf9
  v29 := Try.zeroValue9
  t32 := Try.underlying24
  a32 := Try.isAgg24
  z32 := Try.sizeOf24
  v32 := Try.zeroValue24
  t35 := Try.underlying68
  a35 := Try.isAgg68
  z35 := Try.sizeOf68
  v35 := Try.zeroValue68
  t36 := Try.underlying69
  a36 := Try.isAgg69
  z36 := Try.sizeOf69
  v36 := Try.zeroValue69
  t41 := Try.underlying74
  a41 := Try.isAgg74
  z41 := Try.sizeOf74
  v41 := Try.zeroValue74
  t44 := Try.underlying77
  a44 := Try.isAgg77
  z44 := Try.sizeOf77
  v44 := Try.zeroValue77
  t46 := Try.underlying79
  a46 := Try.isAgg79
  z46 := Try.sizeOf79
  v46 := Try.zeroValue79
  t53 := Try.underlying80
  a53 := Try.isAgg80
  z53 := Try.sizeOf80
  v53 := Try.zeroValue80
  t57 := Try.underlying84
  a57 := Try.isAgg84
  z57 := Try.sizeOf84
  v57 := Try.zeroValue84
  t63 := Try.underlying86
  a63 := Try.isAgg86
  z63 := Try.sizeOf86
  v63 := Try.zeroValue86
  t64 := Try.underlying87
  a64 := Try.isAgg87
  z64 := Try.sizeOf87
  v64 := Try.zeroValue87 }
theorem Try.sortsA (m : Nat) : AnyZ.SortsIn Try.prog Try.sortedA_ren Fence.wide m :=
  ⟨fun blk off cap ss W hH hblk hsz => callsIn_wide.2 (AnyM.slices_Sort_string Try.sortA blk off cap ss W hH hblk hsz),
   fun p cap W => callsIn_wide.2 (AnyM.slices_Sort_string_none Try.sortA p cap W)⟩
end Go.Proofs
namespace Go.Proofs.Ytohimlahncbpjaa
open Go.RowKit Go.Maps Go.Sort Go.Shelf
open Go.WideElems (Fit rd rg)

def strOfV : Value → List UInt8
  | .string s => s.data.toList
  | _ => []
/-- Whatever stands in a map's element: read as nothing. -/
def RNil : Value → Option (DataW Unit × List MemPlace) := fun _ => some (.nil, [])
theorem keyOf_string {P : Program} {K : TypeId} (hK : P.underlying K = some .string) (k : List UInt8) (hk : k.length ≤ maxLen) : keyOf P K (.string ⟨k.toArray⟩) = some (.string k) := by
  have hs : (⟨k.toArray⟩ : ByteArray).size ≤ maxLen := by simpa [ByteArray.size] using hk
  simp [keyOf, hK, mapKey, hs]
/-- The library's word for a map of the call's own. -/
theorem Mp.own {P : Program} {K : TypeId} {w : World} {m : Nat} {l : MapL} (h : Mp w m l) (hK : P.underlying K = some .string) (hk : ∀ k ∈ keysL l, k.length ≤ maxLen) (hl : l.length ≤ maxLen) :
    ∃ D0 : DataW Unit, w.ownsMap P K RNil m l.length D0 ∧ (keysL l).Perm (strKeys D0) ∧ Maps.size D0 = l.length := by
  obtain ⟨es, clock, hb, he, h2, h3, h4⟩ := h
  have hlen := entL_len he
  simp only [Array.length_toList] at hlen
  have hkeys : es.toList.map (·.key) = (keysL l).map (fun k => Value.string ⟨k.toArray⟩) := by
    have := congrArg (List.map Prod.fst) he
    simpa [entL, strL, keysL, Function.comp_def] using this
  have hrd : ∀ x ∈ es.toList, ∃ k, k ∈ keysL l ∧ x.key = .string ⟨k.toArray⟩ ∧ rd P K RNil x = some (.string k, .nil) := by
    intro x hx
    have : x.key ∈ (keysL l).map (fun k => Value.string ⟨k.toArray⟩) := hkeys ▸ List.mem_map_of_mem hx
    obtain ⟨k, hkm, hke⟩ := List.mem_map.1 this
    refine ⟨k, hkm, hke.symm, ?_⟩
    unfold Go.WideElems.rd
    rw [← hke, keyOf_string hK k (hk k hkm)]
    rfl
  have hnd : (es.toList.map (·.key)).Nodup := by
    rw [hkeys]
    refine List.Pairwise.map _ (fun a b hab e => hab ?_) h4
    injection e with e
    exact bytes_inj e
  refine ⟨_, ⟨es, clock, hb, ⟨by omega, ⟨fun x hx => h3 _ (List.mem_map_of_mem hx), h2.imp (fun hh => Nat.ne_of_lt hh), hnd⟩, fun x hx => ?_⟩, by omega, rfl⟩, ?_, ?_⟩
  · obtain ⟨k, _, _, h⟩ := hrd x hx
    exact ⟨_, h⟩
  · have hp : (es.toList.map (rg P K RNil)).Perm ((es.toList.map (rg P K RNil)).foldr DataW.insert []) := (Go.WideShapes.sorted_perm _).symm
    have h5 := hp.map (fun p : Lit × DataW Unit => strOf p.1)
    have e1 : (es.toList.map (rg P K RNil)).map (fun p : Lit × DataW Unit => strOf p.1) = keysL l := by
      rw [List.map_map]
      have e2 : es.toList.map ((fun p : Lit × DataW Unit => strOf p.1) ∘ rg P K RNil) = es.toList.map (strOfV ∘ fun x => x.key) := by
        apply List.map_congr_left
        intro x hx
        obtain ⟨k, _, hxk, hr⟩ := hrd x hx
        simp only [Function.comp_apply, rg, hr, Option.getD_some, hxk, strOf, strOfV]
      rw [e2, ← List.map_map, hkeys, List.map_map]
      exact List.map_id _
    rw [e1] at h5
    exact h5
  · show ((es.toList.map (rg P K RNil)).foldr DataW.insert []).length = l.length
    rw [length_sorted, List.length_map, Array.length_toList, hlen]

theorem names_nil (w : World) : Calls Try.prog 11 #[.pointer none] w fun e w' => e = .returned (.slice none 0 0) ∧ w = w' := by
  go_enter Try.func11, Try.ntmps11
  go_wp2
  go_ret
  exact ⟨rfl, rfl⟩
set_option maxRecDepth 20000 in
set_option maxHeartbeats 1600000 in
theorem names_any (O : Nat → Prop) (p m : Nat) (t : Tp) (w : World) (h : TapeW w O p m t) (hok : TapeOk t) :
    Calls Try.prog 11 #[.pointer (some ⟨p, 0, none⟩)] w (NamesPost t w) := by
  have H := Lib.hid h
  obtain ⟨c0, c1, c2, c3, c4, c5⟩ := tape_cells h
  have hlm : (fmap t.files).length ≤ maxLen := by
    have := hok.cnt
    have : (fmap t.files).length = t.files.length := by simp [fmap]
    unfold maxLen; omega
  have hcnt := hok.cnt
  obtain ⟨D0, hown, hperm, hsize⟩ := h.M.own (P := Try.prog) (K := 9) Try.underlying9 (fun k hk => by
    rw [keys_fmap] at hk
    obtain ⟨f, hf, rfl⟩ := List.mem_map.1 hk
    have := hok.nm f hf
    unfold maxLen; omega) hlm
  rw [keys_fmap] at hperm
  have hfl : (fmap t.files).length = t.files.length := by simp [fmap]
  have hbl := hown.lt
  have hmax : Maps.size D0 ≤ maxLen := by rw [hsize]; exact hlm
  have hbytes : Maps.size D0 * 16 ≤ 140737488355328 := by rw [hsize]; omega
  have hseq : SeqGives Fence.wide 2 Try.prog 31 #[.pointer (some ⟨w.heap.size, 0, none⟩)] encStr (fun ss => ss.Perm (strKeys D0)) (Maps.size D0) (w.alloc (.cells #[.map (some m)] 48)) :=
    AnyZ.keys_gives (ρ := Try.keysA_ren) { Try.keysA with } Fence.wide _ trivial rfl (by omega) w.heap.size m (fmap t.files).length D0 _ (by simp) (by simp) (by
      obtain ⟨es, clock, hb, Ft, hs, hD⟩ := hown
      exact ⟨es, clock, (Below.heap_alloc _ _ m hbl).trans hb, Ft, hs, hD⟩)
  have cK : ∀ mb W, Calls Try.prog 24 #[.map mb] W fun e w' => e = .returned (.func (.func 31) #[] #[.pointer (some ⟨W.heap.size, 0, none⟩)]) ∧ w' = W.alloc (.cells #[.map mb] 48) := fun mb W => (callsIn_wide (n := 5)).1 (AnyZ.keys_in Try.keysA Fence.wide 5 trivial rfl mb W)
  have cS := (callsIn_wide (n := 5)).1 (AnyZ.sorted_in Try.sortedA Fence.wide 5 trivial trivial trivial trivial rfl (by omega) (Try.sortsA _) (enters_of Try.func30 (by kernel_rfl) rfl) 31 #[.pointer (some ⟨w.heap.size, 0, none⟩)] trivial (enters_of Try.func31 (by kernel_rfl) rfl) _ _ hmax hbytes _ hseq)
  change Calls Try.prog 23 _ _ _ at cS
  have CK := Lib.hid cK
  have CS := Lib.hid cS
  have HPM := Lib.hid hperm
  clear h hok hseq cK cS hperm hown
  go_enter Try.func11, Try.ntmps11
  go_wp2_with fail
  refine (CK.out _ _).mono ?_
  rintro e w1 ⟨rfl, rfl⟩
  go_wp2_with fail
  refine CS.out.mono ?_
  rintro e w2 ⟨v, ss, rfl, hS, hrow, hnil, hb⟩
  have HR := Lib.hid hrow
  have HB := Lib.hid hb
  clear hrow hb hnil
  go_wp2
  go_ret
  refine ⟨v, ss.mergeSort (fun x y => decide (x ≤ y)), rfl, ((List.mergeSort_perm _ _).trans hS).trans HPM.out.symm, ?_, ((Below.refl _ w).alloc (Nat.le_refl _) _).trans (HB.out.mono (by simp))⟩
  rw [List.length_mergeSort]
  exact ownsRow_base_a HR.out (by simp)

end Go.Proofs.Ytohimlahncbpjaa
