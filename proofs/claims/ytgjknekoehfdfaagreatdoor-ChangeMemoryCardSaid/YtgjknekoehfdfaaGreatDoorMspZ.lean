/- osierlaw10.spoil, walked. -/
import Derived.Test.YtgjknekoehfdfaaGreatDoorCgwZ
namespace Go.Proofs.YtgjknekoehfdfaaGreatDoor
open Go.RowKit
set_option linter.unusedVariables false

set_option maxHeartbeats 8000000 in
set_option maxRecDepth 100000 in
theorem spoil_any (F : Nat → Prop) (w : World) (a : Option Addr) (n c : Nat) (T : List (Option Addr × Nat × Nat)) (h : CgW F w a n T) (hn : n ≤ 2932031007402) :
    Calls Tryz.prog 21 #[.slice a n c] w fun e w' => e = .returned (.tuple #[]) ∧ Mod F w w' := by
  have HX0 := Lib.hid h
  clear h
  go_enter Tryz.func21, Tryz.ntmps21
  go_wp2_with fail
  go_loopw [2, 6] (fun _ i wr => ∃ x : Nat, x ≤ n ∧ i = .int .i64 x ∧ Hid (CgW F wr a n T) ∧ Hid (Mod F w wr)) (fun _ i _ => n - (intOf i).toNat)
  case atStart => exact ⟨0, Nat.zero_le _, rfl, HX0, Lib.hid (Mod.refl _ _)⟩
  case round =>
    obtain ⟨x, hx, rfl, HX, HMX⟩ := hrel
    obtain ⟨wx, rfl⟩ : ∃ wx : World, wx = wr := ⟨_, rfl⟩
    by_cases hxl : x < n
    · obtain ⟨g, t, kk, cc2, u, rfl, hF, hgl, hT, hu, hf, hcl2, hkk, hW⟩ := HX.out.at_ hxl
      have hd3 : decide ((x : Int) < 0) = false := by simp
      have hd4 : decide ((n : Int) ≤ (x : Int)) = false := by simp; omega
      have HF := Lib.hid hF
      have HT := Lib.hid hT
      clear hF hT hW
      go_wp2_with fail
      go_loopw [3, 15] (fun _ i wr => ∃ y : Nat, y ≤ kk ∧ i = .int .i64 y ∧ Hid (CgW F wr (some ⟨g, 0, none⟩) n T) ∧ Hid (Mod F w wr)) (fun _ i _ => kk - (intOf i).toNat)
      case atStart => exact ⟨0, Nat.zero_le _, rfl, HX, HMX⟩
      case round =>
        obtain ⟨y, hy, rfl, HY, HMY⟩ := hrel
        obtain ⟨wy, rfl⟩ : ∃ wy : World, wy = wr := ⟨_, rfl⟩
        clear hu hf hcl2 hgl
        obtain ⟨g', t', k', c', u', hgg, hF', hgl', hT', hu', hf', hcl', _, hW'⟩ := HY.out.at_ hxl
        injection hgg with hgg
        injection hgg with hgg _ _
        subst hgg
        rw [HT.out] at hT'
        simp only [Option.some.injEq, Prod.mk.injEq] at hT'
        obtain ⟨rfl, rfl, rfl⟩ := hT'
        by_cases hyl : y < kk
        · obtain ⟨q, rfl, ⟨hq1, hq2⟩, hql, hqa⟩ := hW'.at_ (by omega)
          have hth : wy.there q (y * 3) 3 := fun z hz => by
            obtain ⟨⟨u2, hu2⟩, hf2⟩ := hqa (y * 3 + z) (by omega)
            exact ⟨by rw [hu2]; rfl, hf2⟩
          have HTH := Lib.hid hth
          have HQF := Lib.hid hq1
          have HQN := Lib.hid hq2
          have he1 : decide ((y : Int) < 0) = false := by simp
          have he2 : decide ((kk : Int) ≤ (y : Int)) = false := by simp; omega
          clear hth hqa hq1 hq2
          go_wp2_with (refine wpList_store_mid rfl 74 _ _ rfl _ _ _ rfl rfl ?ht (by kernel_rfl) (by simp [Value.oneCell']) ?_)
          case ht => exact HTH.out
          go_wp2_with fail
          go_roundw
          case rel => exact ⟨y + 1, by omega, by go_num, Lib.hid (HY.out.setOther (fun e => HQN.out (by injection e with e; injection e with e _ _; exact e.symm)) _ _), Lib.hid (HMY.out.trans (mod_setCellsQ (F := F) HQF.out _ _ wy) (fun _ _ f => f))⟩
          case measure => simp [intOf]; omega
        · obtain rfl : y = kk := by omega
          clear hW'
          go_wp2_with fail
          go_roundw
          case rel => exact ⟨x + 1, by omega, by go_num, Lib.hid (HY.out.setRel x _), Lib.hid (HMY.out.trans ((Mod.refl _ wy).setCell (p := ⟨g, x * 3 + 1, none⟩) (fun _ => HF.out) _) (fun _ _ f => f))⟩
          case measure => simp [intOf]; omega
    · obtain rfl : x = n := by omega
      go_wp2_with fail
      go_end0
      exact ⟨rfl, HMX.out⟩
end Go.Proofs.YtgjknekoehfdfaaGreatDoor
