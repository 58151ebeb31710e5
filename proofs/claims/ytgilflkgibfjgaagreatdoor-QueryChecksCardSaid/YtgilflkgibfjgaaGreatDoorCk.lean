/- osierref08.Place, walked. -/
import Derived.Test.YtgilflkgibfjgaaGreatDoorCi
import Derived.Test.YtgilflkgibfjgaaGreatDoorLe
import Derived.Deep.RegionHeld3
import Derived.Deep.RegionWith
import Derived.Deep.RegionLaw
namespace Go.Proofs.YtgilflkgibfjgaaGreatDoor
open Go.RowKit
set_option linter.unusedVariables false

set_option maxHeartbeats 4000000 in
set_option maxRecDepth 100000 in
theorem refPlace_any (w : World) (v : Value) (d : List Rln) (x : ByteArray) (h : RelsAt w v d) :
    Calls Tryz.prog 52 #[v, .string x] w fun e w' => e = .returned (.int .i64 (plI d x.data.toList)) ∧ Below w.heap.size w w' := by
  obtain ⟨ad, cap, rfl, hnc, hcm⟩ := h.form
  have hln := h.len
  unfold maxLen at hcm
  have HD := Lib.hid h
  obtain ⟨RES, hRES⟩ : ∃ RES, RES = plI d x.data.toList := ⟨_, rfl⟩
  rw [← hRES]
  have HQ := Lib.hid hRES
  clear h hRES
  generalize hN : d.length = n at *
  have HN := Lib.hid hN
  clear hN
  obtain ⟨xs⟩ := x
  obtain ⟨xs⟩ := xs
  go_enter Tryz.func52, Tryz.ntmps52
  go_wp2_with fail
  go_loopw [5] (fun i wr => ∃ k : Nat, k ≤ n ∧ i = .int .i64 k ∧ Hid (∀ y ∈ (d.map (·.name)).take k, y ≠ xs) ∧ Hid (Below w.heap.size w wr)) (fun i _ => n - (intOf i).toNat)
  case atStart => exact ⟨0, Nat.zero_le _, rfl, Lib.hid (by simp), Lib.hid (Below.refl _ _)⟩
  case round =>
    obtain ⟨k, hk, rfl, HP, BW⟩ := hrel
    by_cases hlt : k < n
    · obtain ⟨r, hr⟩ : ∃ r, d[k]? = some r := ⟨d[k]'(by rw [HN.out]; exact hlt), List.getElem?_eq_getElem (by rw [HN.out]; exact hlt)⟩
      obtain ⟨db, d_o, dcap, cv, hdv, _, _, hdl, k0, _, _, _⟩ := (HD.out.keep BW.out).get hr
      rw [HN.out] at hdv
      simp only [Value.slice.injEq, true_and] at hdv
      obtain ⟨rfl, rfl⟩ := hdv
      have hdk : decide ((k : Int) < 0) = false := by simp
      have hdn : decide ((n : Int) ≤ (k : Int)) = false := by simp; omega
      have hnk : (d.map (·.name))[k]? = some r.name := by simp [hr]
      have HNK := Lib.hid hnk
      clear hr hnk
      by_cases he : r.name = xs
      · have hb : (r.name == xs) = true := by simp [he]
        have hq := HQ.out
        rw [show plI d (⟨⟨xs⟩⟩ : ByteArray).data.toList = (k : Int) from idxI_hit (by rw [HNK.out, he]) (fun hm => HP.out _ hm rfl)] at hq
        subst hq
        clear he
        go_wp2_with fail
        go_ret
        exact ⟨rfl, BW.out⟩
      · have hb : (r.name == xs) = false := by simpa using he
        have HP2 : Hid (∀ y ∈ (d.map (·.name)).take (k + 1), y ≠ xs) := Lib.hid (by
          intro y hy
          rw [List.take_add_one, HNK.out] at hy
          simp only [Option.toList_some, List.mem_append, List.mem_singleton] at hy
          rcases hy with hy | rfl
          · exact HP.out y hy
          · exact he)
        clear he
        go_wp2_with fail
        go_roundw
        case rel => exact ⟨k + 1, by omega, by go_num, HP2, BW⟩
        case measure => simp [intOf]; omega
    · obtain rfl : k = n := by omega
      have hq := HQ.out
      have hp := HP.out
      rw [List.take_of_length_le (by rw [List.length_map, HN.out]; exact Nat.le_refl _)] at hp
      rw [show plI d (⟨⟨xs⟩⟩ : ByteArray).data.toList = -1 from idxI_miss (fun hm => hp _ hm rfl)] at hq
      subst hq
      clear hp
      go_wp2_with fail
      go_ret
      exact ⟨rfl, BW.out⟩
end Go.Proofs.YtgilflkgibfjgaaGreatDoor
