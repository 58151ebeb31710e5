/- osierref01.scanText, walked. -/
import Derived.Test.YthfibaajmbhdkaaDoorVuw
import Derived.Test.YthfibaajmbhdkaaDoorVal3
namespace Go.Proofs.YthfibaajmbhdkaaDoor
open Go.RowKit
set_option linter.unusedVariables false

set_option maxHeartbeats 8000000 in
set_option maxRecDepth 100000 in
theorem refText_any (s : ByteArray) (p : Nat) (w : World) (hi : p < s.size) (hs : s.size ≤ p + 140737488355328) (hs2 : s.size ≤ 281474976710656) :
    Calls Tryd.prog 50 #[.string s, .int .i64 p] w fun e w' => e = .returned (textR (s.data.toList.drop (p + 1)) (p + 1)).v ∧ Below w.heap.size w w' := by
  obtain ⟨i0, hi0, hz0, hz1, hz2⟩ := info_parts Tryd.infoByte
  have hsl : s.data.toList.length = s.size := rfl
  have HSL := Lib.hid hsl
  clear hsl
  generalize hL : s.data.toList = l at *
  have HL := Lib.hid hL
  clear hL
  go_enter Tryd.func50, Tryd.ntmps50
  go_wp2_with fail
  go_loopw [7, 8] (fun v ix wr => ∃ (k : Nat) (acc : List UInt8) (a : Option Addr) (cap : Nat), p + 1 ≤ k ∧ k ≤ s.size ∧ ix = .int .i64 k ∧ v = .slice a acc.length cap ∧ wr.ownsRow (w.heap.size + 1) 5 1 (.slice a acc.length cap) acc.length (Lib.byteCells acc) ∧ Below w.heap.size w wr ∧ Blk wr w.heap.size 35 #[.int .i64 0, .int .i64 0, .string ⟨#[]⟩] ∧ acc.length + p + 1 ≤ k ∧ textIs l (p + 1) k acc) (fun _ ix _ => s.size - (intOf ix).toNat)
  case atStart =>
    exact ⟨p + 1, [], none, 0, Nat.le_refl _, hi, by go_num, rfl, World.ownsRow_nil _ _ _ _, balloc (Below.refl _ _) _, Blk.new _ _ _, by simp, textIs_start l (p + 1)⟩
  case round =>
    obtain ⟨k, acc, a, cap, hik, hk, rfl, rfl, hown, hbel, hblk, hacc, hrel⟩ := hrel
    have HR := Lib.hid hrel
    have HO := Lib.hid hown
    clear hrel hown
    have hsz := hbel.size
    have r0 := hblk.cell 0
    have r1 := hblk.cell 1
    have r2 := hblk.cell 2
    have z0 := hblk.frozen 0
    have z1 := hblk.frozen 1
    have z2 := hblk.frozen 2
    simp at r0 r1 r2
    by_cases hlt : k < s.size
    · have hbt := bt_of s k hlt
      rw [HL.out] at hbt
      have hkl : k < l.length := by have := HSL.out; omega
      by_cases hq : bt l k = 34
      · have q1 : (((s[k]'hlt).toNat : Int) != 34) = false := by rw [hbt]; simp [hq]
        have HBT := Lib.hid hbt
        clear hbt
        have hge : (k : Int) < s.size := by omega
        by_cases h64 : 64 < acc.length
        · have HE := Lib.hid (textR_long HR.out hkl hq h64)
          clear hq
          go_wp2_with fail
          refine bodyPost_ret (v := (bad 13).v) (by simp [results, Tryd.results50, go_sem, *]; rfl) rfl ⟨by have h := HE.out; push_cast at h; rw [h], bstore3 hbel _ _ _⟩
        · have HE := Lib.hid (textR_good HR.out hik hkl hq (by omega))
          have hcv := run_conv_own (P := Tryd.prog) Tryd.underlying63 Tryd.underlying5 Tryd.underlying9 HO.out
          have h64' : acc.length ≤ 64 := by omega
          clear hq h64
          go_wp2_with fail
          refine bodyPost_ret (v := (⟨2, 0, acc, k + 1, 0⟩ : Res).v) (by simp [results, Tryd.results50, go_sem, *]; rfl) rfl ⟨by have h := HE.out; push_cast at h; rw [h], bstore3 hbel _ _ _⟩
      · have q1 : (((s[k]'hlt).toNat : Int) != 34) = true := by rw [hbt]; simpa using hq
        have HBT := Lib.hid hbt
        clear hbt
        have hbd := scanB_bd (l.drop k) (drop_ne hkl)
        have hdl : (l.drop k).length = s.size - k := by rw [List.length_drop, HSL.out]
        rw [hdl] at hbd
        have HDL := Lib.hid hdl
        clear hdl
        have hsc := unit_any s k wr hlt hs2 (by rw [HL.out]; exact hq)
        rw [HL.out] at hsc
        by_cases hn : (scanB (l.drop k)).2 = 0
        · have HE := Lib.hid (textR_bad HR.out hkl hq hn)
          have hn' : ((scanB (l.drop k)).2 == 0) = true := by simpa using hn
          have HSC := Lib.hid hsc
          clear hq hn hsc
          go_wp2_with fail
          refine HSC.out.mono ?_
          rintro e w1 ⟨rfl, hb1⟩
          have hb1' := hbel.trans (hb1.mono hsz)
          have hblk1 := hblk.below hb1 (by have := hblk.lt; omega)
          have r0 := hblk1.cell 0
          have r1 := hblk1.cell 1
          have r2 := hblk1.cell 2
          have z0 := hblk1.frozen 0
          have z1 := hblk1.frozen 1
          have z2 := hblk1.frozen 2
          simp at r0 r1 r2
          go_wp2_with fail
          refine bodyPost_ret (v := (bad 11).v) (by simp [results, Tryd.results50, go_sem, *]; rfl) rfl ⟨by have h := HE.out; push_cast at h; rw [h], bstore3 hb1' _ _ _⟩
        · have hst := textIs_step HR.out hik hkl hq hn
          have HST := Lib.hid hst
          have hn' : ((scanB (l.drop k)).2 == 0) = false := by simpa using hn
          have HSC := Lib.hid hsc
          have hn1 : 1 ≤ (scanB (l.drop k)).2 := by omega
          have hsn := cells_snoc acc (scanB (l.drop k)).1 hbd.1.1 hbd.1.2
          have HSN := Lib.hid hsn
          clear hq hn hsc hst hsn
          go_wp2_with fail
          refine HSC.out.mono ?_
          rintro e w1 ⟨rfl, hb1⟩
          have hb1' := hbel.trans (hb1.mono hsz)
          have hblk1 := hblk.below hb1 (by have := hblk.lt; omega)
          have hown1 := (Mod.ofBelow (F := fun _ => False) hb1).ownsRow HO.out (fun _ _ f => f)
          have HO1 := Lib.hid hown1
          have HB1 := Lib.hid hblk1
          have hsz1 := hb1'.size
          clear hown1 hblk1 hblk r0 r1 r2 z0 z1 z2
          go_wp2_with (at_builtin; refine wpList_append_lies _ rfl (.tmp 32) (.tmp 34) 63 rfl (w.heap.size + 1) 5 i0 (.int .u8 0) 1 1 Tryd.underlying63 hi0 hz0 hz1 hz2 rfl (by decide) (.slice a acc.length cap) acc.length _ rfl (HO1.out.alloc _) ⟨w1.heap.size, 0, none⟩ 1 1 [.int .u8 (scanB (l.drop k)).1] rfl rfl (cell_one_new _ _ _) ?c2 (by decide) ?c3 (by omega) ?c4 (w1.heap.size + 1) (by simp) ?_)
          case c2 => intro u hu; simp at hu; subst hu; rfl
          case c3 => unfold maxLen; omega
          case c4 => have := HB1.out.lt; simp; omega
          intro g cap1 w2 hown2 hgrow2 hat2 hlt2
          have hb2 : Below w.heap.size w w2 := (balloc hb1' _).grown hgrow2 (by simp; omega) (fun q hq => by have := (HO1.out.lt q hq).1; omega)
          have hblk2 := (HB1.out.alloc (.cells #[.int .u8 (scanB (l.drop k)).1] 5)).grown hgrow2 (fun e => own_blk_ne HO1.out HB1.out (by decide) e.symm)
          have HO2 := Lib.hid hown2
          have HB2 := Lib.hid hblk2
          clear hown2 hblk2
          go_wp2_with fail
          have hkey : (acc ++ [UInt8.ofNat (scanB (l.drop k)).1.toNat]).length = acc.length + 1 := by simp
          refine ⟨⟨k + (scanB (l.drop k)).2.toNat, acc ++ [UInt8.ofNat (scanB (l.drop k)).1.toNat], some ⟨g, 0, none⟩, cap1, by omega, by omega, congrArg (Value.int .i64) (by omega), by rw [hkey], ?_, hb2, HB2.out, by rw [hkey]; omega, HST.out⟩, ?_⟩
          · rw [hkey, HSN.out]; exact HO2.out
          · simp only [intOf]; omega
    · have hke : k = s.size := by omega
      subst hke
      have HE := Lib.hid (textR_end HR.out HSL.out.symm)
      go_wp2_with fail
      refine bodyPost_ret (v := (bad 11).v) (by simp [results, Tryd.results50, go_sem, *]; rfl) rfl ⟨by have h := HE.out; push_cast at h; rw [h], bstore3 hbel _ _ _⟩
end Go.Proofs.YthfibaajmbhdkaaDoor
