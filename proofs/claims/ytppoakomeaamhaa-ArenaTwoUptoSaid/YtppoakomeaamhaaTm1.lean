/- osierlaw03.twin, walked: Take. -/
import Derived.Test.YtppoakomeaamhaaTm0
import Derived.Deep.RegionWith
import Derived.Deep.RegionHeld3
namespace Go.Proofs.Ytppoakomeaamhaa
open Go.RowKit
set_option linter.unusedVariables false

theorem number_at (n : Int) (h0 : -9223372036854775808 ≤ n) (h1 : n ≤ 9223372036854775807) (w : World) :
    Calls Try.prog 38 #[.int .i64 n] w fun e w' => e = .returned (.string (strOf n)) ∧ Below w.heap.size w w' := number_any n w h0 h1

set_option maxHeartbeats 8000000 in
set_option maxRecDepth 100000 in
theorem twin_take (w : World) (F : Nat → Prop) (W : World) (p d : Nat) (most gens : Int) (sl : List Slot) (fr : List Int) (live : Int) (vs vf : Value) (all : List One) (clock : Int) (va : Value) (h : TMem w F W p d most gens sl fr live vs vf all clock va) (hs : Sim sl fr all clock) (hl : all.length ≤ 300000) (hc : clock ≤ 300000000000) (o1 o2 o3 : Int) (hv0 : -9223372036854775808 ≤ o3) (hv1 : o3 ≤ 9223372036854775807) :
    Calls Try.prog 26 #[.pointer (some ⟨p, 0, none⟩), .pointer (some ⟨d, 0, none⟩), .agg #[.int .i64 1, .int .i64 o1, .int .i64 o2, .int .i64 o3]] W fun e w' => e = .returned (.bool true) ∧ TStepped w F p d most gens (all.length + 1) (clock + 1048576) w' := by
  have H := Lib.hid h
  have HS := Lib.hid hs
  have hms := h.inv.m2
  have hm1 := h.inv.m1
  have hlv := h.eqLive
  have HL := Lib.hid hlv
  clear h hs hlv
  go_enter Try.func26, Try.ntmps26
  go_wp2_with fail
  have HB := Lib.hid (H.out.keep (balloc (balloc (Below.refl _ _) (.cells #[.int .i64 1, .int .i64 o1, .int .i64 o2, .int .i64 o3] 36)) (.cells #[.int .i64 o1, .int .i64 o2] 40)))
  refine (number_at o3 hv0 hv1 _).mono ?_
  rintro e w3 ⟨rfl, hb3⟩
  have HP3 := Lib.hid (HB.out.keep hb3)
  have c3 := hb3.cell (p := ⟨W.heap.size, 3, none⟩) (by simp; omega)
  simp at c3
  have hz3 := hb3.size
  simp at hz3
  have hzW : W.heap.size + 1 < w3.heap.size := by omega
  clear hb3 hz3
  generalize hso : strOf o3 = S
  have HSO := Lib.hid hso
  clear hso
  go_wp2_with fail
  have htk0 := take_simS _ p most gens sl fr live vs vf all clock o3 HP3.out.rep HP3.out.inv HS.out
  rw [HSO.out] at htk0
  refine htk0.mono ?_
  clear htk0
  rintro e w5 (⟨rfl, hb5, hpk⟩ | ⟨i, g, sl', fr', vs', vf', htk⟩)
  · have HP5 := Lib.hid (HP3.out.keep hb5)
    have c0 := (hb5.cell (p := ⟨W.heap.size, 3, none⟩) (show W.heap.size < w3.heap.size by omega)).trans c3
    have hz5 := hb5.size
    have hz : W.heap.size < w5.heap.size := by omega
    clear hb5
    go_wp2_with fail
    have HP6 := Lib.hid (HP5.out.keep (balloc (Below.refl _ _) (.cells #[.int .i64 0, .int .i64 0] 40)))
    refine (take_ref _ d most gens clock all va HP6.out.drep (by omega) (HS.out.small HB.out.inv (by omega)) (by omega) (by omega) o3).mono ?_
    rintro e w7 (⟨_, rfl, hb7⟩ | ⟨hpk2, _⟩)
    · have HP7 := Lib.hid (HP6.out.keep hb7)
      have e0 := hb7.cell (p := ⟨w5.heap.size, 0, none⟩) (by simp)
      have e1 := hb7.cell (p := ⟨w5.heap.size, 1, none⟩) (by simp)
      simp at e0 e1
      have hz7 := hb7.size
      simp at hz7
      have hzz : w5.heap.size < w7.heap.size := by omega
      clear hb7
      go_wp2_with fail
      go_ret
      exact ⟨rfl, HP7.out.stepped HS.out (by omega) (by omega)⟩
    · exfalso; omega
  · obtain ⟨rfl, hnow, hinv', htkn, hpick, hgenl, hsim⟩ := htk
    have hp5 := HP3.out.ofA hnow hinv' (HP3.out.num.taken htkn hv0 hv1)
    have HP5 := Lib.hid hp5
    have hnf : ∀ k, foot p vs vf k → k ≠ W.heap.size := fun k hf e => by have := H.out.rep.footlt hf; omega
    have c0 := (hnow.mod.cell (p := ⟨W.heap.size, 3, none⟩) (show W.heap.size < w3.heap.size by omega) (fun f => hnf _ f rfl)).trans c3
    have hz5 := hnow.mod.size
    have hz : W.heap.size < w5.heap.size := by omega
    have HSM := Lib.hid hsim
    have HPK := Lib.hid hpick
    have HGL := Lib.hid hgenl
    clear hnow hinv' htkn hpick hgenl hsim hp5 hnf
    go_wp2_with fail
    have HP6 := Lib.hid (HP5.out.keep (balloc (Below.refl _ _) (.cells #[.int .i64 (i : Int), .int .i64 g] 40)))
    refine (take_ref _ d most gens clock all va HP6.out.drep (by omega) (HS.out.small HB.out.inv (by omega)) (by omega) (by omega) o3).mono ?_
    rintro e w7 (⟨hpk2, _⟩ | ⟨_, rfl, va', hdn⟩)
    · exfalso
      rw [HPK.out] at hpk2
      omega
    · have hp7 := HP6.out.ofD hdn
      have HP7 := Lib.hid hp7
      have hnd : ∀ k, dfoot d va k → k ≠ w5.heap.size := fun k hf e => by have := HP5.out.drep.footlt hf; omega
      have e0 := hdn.mod.cell (p := ⟨w5.heap.size, 0, none⟩) (by simp) (fun f => hnd _ f rfl)
      have e1 := hdn.mod.cell (p := ⟨w5.heap.size, 1, none⟩) (by simp) (fun f => hnd _ f rfl)
      simp at e0 e1
      have hz7 := hdn.mod.size
      simp at hz7
      have hzz : w5.heap.size < w7.heap.size := by omega
      clear hdn hp7 hnd
      rw [HPK.out, HGL.out]
      go_wp2_with fail
      go_ret
      exact ⟨rfl, HP7.out.stepped HSM.out (by simp) (by omega)⟩
end Go.Proofs.Ytppoakomeaamhaa
