/- osierlaw03.step, walked: Take, Give. -/
import Derived.Test.YtppoakomeaamhaaSp0
import Derived.Deep.RegionWith
namespace Go.Proofs.Ytppoakomeaamhaa
open Go.RowKit
set_option linter.unusedVariables false

theorem PMem.find {w : World} {F : Nat → Prop} {W : World} {p d : Nat} {most gens : Int} {sl : List Slot} {fr : List Int} {live : Int} {vs vf : Value} {all : List One} {clock : Int} {va : Value} (h : PMem w F W p d most gens sl fr live vs vf all clock va) (hl : all.length ≤ 300000) (s g : Int) :
    Calls Try.prog 30 #[.pointer (some ⟨d, 0, none⟩), .int .i64 s, .int .i64 g] W fun e w' => (∃ r, e = .returned (.int .i64 r) ∧ IsFind all s g r) ∧ w' = W :=
  find_ref W d most gens clock all va h.drep (by omega) s g

set_option maxHeartbeats 8000000 in
set_option maxRecDepth 100000 in
theorem step_take (w : World) (F : Nat → Prop) (W : World) (p d : Nat) (most gens : Int) (sl : List Slot) (fr : List Int) (live : Int) (vs vf : Value) (all : List One) (clock : Int) (va : Value) (h : PMem w F W p d most gens sl fr live vs vf all clock va) (hs : Sim sl fr all clock) (hl : all.length ≤ 300000) (hc : clock ≤ 300000000000) (o1 o2 o3 : Int) :
    Calls Try.prog 22 #[.pointer (some ⟨p, 0, none⟩), .pointer (some ⟨d, 0, none⟩), .agg #[.int .i64 1, .int .i64 o1, .int .i64 o2, .int .i64 o3]] W fun e w' => e = .returned (.bool true) ∧ Stepped w F p d most gens (all.length + 1) (clock + 1048576) w' := by
  have H := Lib.hid h
  have HS := Lib.hid hs
  have hms := h.inv.m2
  have hm1 := h.inv.m1
  have hlv := h.eqLive
  have HL := Lib.hid hlv
  clear h hs hlv
  go_enter Try.func22, Try.ntmps22
  go_wp2_with fail
  have HB := Lib.hid (H.out.keep (balloc (balloc (Below.refl _ _) (.cells #[.int .i64 1, .int .i64 o1, .int .i64 o2, .int .i64 o3] 36)) (.cells #[.int .i64 o1, .int .i64 o2] 40)))
  refine (HB.out.find hl o1 o2).mono ?_
  rintro e w3 ⟨⟨r, rfl, hf⟩, rfl⟩
  have HF := Lib.hid hf
  clear hf
  go_wp2_with fail
  refine (take_sim _ p most gens sl fr live vs vf all clock o3 HB.out.rep HB.out.inv HS.out).mono ?_
  rintro e w5 (⟨rfl, hb5, hpk⟩ | ⟨i, g, sl', fr', vs', vf', htk⟩)
  · have HP5 := Lib.hid (HB.out.keep hb5)
    have c0 := hb5.cell (p := ⟨W.heap.size, 3, none⟩) (by simp; omega)
    simp at c0
    have hz5 := hb5.size
    simp at hz5
    have hz : W.heap.size < w5.heap.size := by omega
    clear hb5
    go_wp2_with fail
    have HP6 := Lib.hid (HP5.out.keep (balloc (Below.refl _ _) (.cells #[.int .i64 0, .int .i64 0] 40)))
    refine (take_ref _ d most gens clock all va HP6.out.drep (by omega) (HS.out.small HB.out.inv (by omega)) (by omega) (by omega) o3).mono ?_
    rintro e w7 (⟨_, rfl, hb7⟩ | ⟨hpk2, _⟩)
    · have HP7 := Lib.hid (HP6.out.keep hb7)
      have e0 := hb7.cell (p := ⟨w5.heap.size, 0, none⟩) (by simp)
      have e1 := hb7.cell (p := ⟨w5.heap.size, 1, none⟩) (by simp)
      simp at e0 e1
      have hz7 := hb7.size
      simp at hz7
      have hzz : w5.heap.size < w7.heap.size := by omega
      clear hb7
      go_wp2_with fail
      go_ret
      exact ⟨rfl, HP7.out.stepped HS.out (by omega) (by omega)⟩
    · exfalso; omega
  · obtain ⟨rfl, hnow, hinv', htkn, hpick, hgenl, hsim⟩ := htk
    have hp5 := HB.out.ofA hnow hinv' (HB.out.num.taken htkn)
    have HP5 := Lib.hid hp5
    have hnf : ∀ k, foot p vs vf k → k ≠ W.heap.size := fun k hf e => by have := H.out.rep.footlt hf; omega
    have c0 := hnow.mod.cell (p := ⟨W.heap.size, 3, none⟩) (by simp; omega) (fun f => hnf _ f rfl)
    simp at c0
    have hz5 := hnow.mod.size
    simp at hz5
    have hz : W.heap.size < w5.heap.size := by omega
    have HSM := Lib.hid hsim
    have HPK := Lib.hid hpick
    have HGL := Lib.hid hgenl
    clear hnow hinv' htkn hpick hgenl hsim hp5 hnf
    go_wp2_with fail
    have HP6 := Lib.hid (HP5.out.keep (balloc (Below.refl _ _) (.cells #[.int .i64 (i : Int), .int .i64 g] 40)))
    refine (take_ref _ d most gens clock all va HP6.out.drep (by omega) (HS.out.small HB.out.inv (by omega)) (by omega) (by omega) o3).mono ?_
    rintro e w7 (⟨hpk2, _⟩ | ⟨_, rfl, va', hdn⟩)
    · exfalso
      rw [HPK.out] at hpk2
      omega
    · have hp7 := HP6.out.ofD hdn
      have HP7 := Lib.hid hp7
      have hnd : ∀ k, dfoot d va k → k ≠ w5.heap.size := fun k hf e => by have := HP5.out.drep.footlt hf; omega
      have e0 := hdn.mod.cell (p := ⟨w5.heap.size, 0, none⟩) (by simp) (fun f => hnd _ f rfl)
      have e1 := hdn.mod.cell (p := ⟨w5.heap.size, 1, none⟩) (by simp) (fun f => hnd _ f rfl)
      simp at e0 e1
      have hz7 := hdn.mod.size
      simp at hz7
      have hzz : w5.heap.size < w7.heap.size := by omega
      clear hdn hp7 hnd
      rw [HPK.out, HGL.out]
      go_wp2_with fail
      go_ret
      exact ⟨rfl, HP7.out.stepped HSM.out (by simp) (by omega)⟩
end Go.Proofs.Ytppoakomeaamhaa
