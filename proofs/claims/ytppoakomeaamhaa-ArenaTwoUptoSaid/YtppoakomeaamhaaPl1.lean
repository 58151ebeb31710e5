/- osierlaw03.ArenaPlays, walked. -/
import Derived.Test.YtppoakomeaamhaaSp3
namespace Go.Proofs.Ytppoakomeaamhaa
open Go.RowKit
set_option linter.unusedVariables false

theorem stepped_start (w : World) (s g : Int) (h1 : 1 ≤ s) (h2 : s ≤ 1048576) (h3 : 1 ≤ g) (h4 : g ≤ 1073741824) :
    Stepped w (fun _ => False) w.heap.size (w.heap.size + 1) s g 0 0 ((w.alloc (.cells #[.int .i64 s, .int .i64 g, .slice none 0 0, .slice none 0 0, .int .i64 0] 61)).alloc (.cells #[.int .i64 s, .int .i64 g, .slice none 0 0, .int .i64 0] 52)) := by
  have hA := (empty_rep w 61 65 s g).keep (balloc (Below.refl _ _) (.cells #[.int .i64 s, .int .i64 g, .slice none 0 0, .int .i64 0] 52))
  have hD := Blk.new (w.alloc (.cells #[.int .i64 s, .int .i64 g, .slice none 0 0, .slice none 0 0, .int .i64 0] 61)) 52 #[.int .i64 s, .int .i64 g, .slice none 0 0, .int .i64 0]
  rw [World.size_alloc] at hD
  refine ⟨[], [], _, _, [], 0, .slice none 0 0, ⟨hA, inv_empty s g h1 h2 h3 h4, Nums.nil, ⟨hD, World.ownsRow_nil _ _ _ _⟩, ?_, ?_, Mod.ofBelow (balloc (balloc (Below.refl _ _) _) _)⟩, sim_empty, Nat.le_refl _, Int.le_refl _⟩
  · rintro k (rfl | hk | hk) (hd | hd)
    · omega
    · cases hd
    · cases hk
    · cases hk
    · cases hk
    · cases hk
  · rintro k ((rfl | hk | hk) | (rfl | hd)) hl
    · omega
    · cases hk
    · cases hk
    · omega
    · cases hd

set_option maxHeartbeats 8000000 in
set_option maxRecDepth 100000 in
theorem plays_good (s g : Int) (sv : Value) (n : Nat) (w : World) (hsc : Script w sv n) (hnb : n ≤ 262144) (hg : goodB s g = true) :
    Calls Try.prog 7 #[.int .i64 s, .int .i64 g, sv] w fun e w' => e = .returned (.bool true) ∧ Below w.heap.size w w' := by
  obtain ⟨h1, h2, h3, h4⟩ : 1 ≤ s ∧ s ≤ 1048576 ∧ 1 ≤ g ∧ g ≤ 1073741824 := by simpa [goodB] using hg
  obtain ⟨hn, ad, cap, rfl, hcells⟩ := hsc
  have HC := Lib.hid hcells
  clear hcells
  have HG := Lib.hid hg
  clear hg
  have HM0 := Lib.hid (stepped_start w s g h1 h2 h3 h4)
  go_enter Try.func7, Try.ntmps7
  go_wp2_with fail
  refine (good_any s g _).mono ?_
  rintro e w3 ⟨rfl, rfl⟩
  rw [HG.out]
  go_wp2_with fail
  refine (new_good s g w h1 h2 h3 h4).mono ?_
  rintro e w1 ⟨rfl, rfl⟩
  go_wp2_with fail
  go_loopw [35] (fun ix wr => ∃ (i : Nat), i ≤ n ∧ ix = .int .i64 i ∧ Stepped w (fun _ => False) w.heap.size (w.heap.size + 1) s g i ((i : Int) * 1048576) wr) (fun ix _ => n - (intOf ix).toNat)
  case atStart => exact ⟨0, Nat.zero_le _, rfl, by simpa using HM0.out⟩
  case round =>
    obtain ⟨wo, rfl⟩ : ∃ wo : World, wo = wr := ⟨_, rfl⟩
    obtain ⟨i, hi, rfl, hom⟩ := hrel
    have HOM := Lib.hid hom
    clear hom
    by_cases hlt : i < n
    · rcases HC.out with h0 | ⟨b, off, f, rfl, hb, hcs⟩
      · omega
      · obtain ⟨c0, c1, c2, c3⟩ := hcs i hlt
        have hbel : Below w.heap.size w wo := by obtain ⟨_, _, _, _, _, _, _, h, _⟩ := HOM.out; exact h.bel.ofEmpty
        have hcell : ∀ j v, w.cell? ⟨b, off + i * 4 + j, none⟩ = some v → wo.cell? ⟨b, off + i * 4 + j, none⟩ = some v := fun j v h => (hbel.cell (p := ⟨b, off + i * 4 + j, none⟩) hb).trans h
        have c0 := hcell 0 _ c0
        have c1 := hcell 1 _ c1
        have c2 := hcell 2 _ c2
        have c3 := hcell 3 _ c3
        simp only [Nat.add_zero] at c0
        generalize f i = op at *
        obtain ⟨o0, o1, o2, o3⟩ := op
        simp only at c0 c1 c2 c3
        have hsz := hbel.size
        clear hcs hcell hbel
        go_wp2_with fail
        refine (step_any w _ _ _ _ s g i ((i : Int) * 1048576) (HOM.out.keep (balloc (Below.refl _ _) _)) (by omega) (by omega) o0 o1 o2 o3).mono ?_
        rintro e w5 ⟨rfl, hst⟩
        have HST := Lib.hid hst
        clear hst
        go_wp2_with fail
        go_roundw
        case rel => exact ⟨i + 1, by omega, by go_num, HST.out.weaken (by omega) (by omega)⟩
        case measure => simp only [intOf]; omega
    · have hie : i = n := by omega
      subst hie
      obtain ⟨sl, fr, vs, vf, all, clock, va, hp, hs, hl, hc⟩ := HOM.out
      have hcnt := hp.inv.count
      have hln := hp.inv.len
      have ha := hs.aliveCount hp.inv
      have hr := hs.roomEq hp.inv
      have hck := hs.clk
      have HP := Lib.hid hp
      have HS := Lib.hid hs
      have HAC := Lib.hid ha
      have HRC := Lib.hid hr
      clear hp hs ha hr
      generalize liveN sl = live at *
      go_wp2_with fail
      refine (len_any _ _ s g sl fr live vs vf HP.out.rep).mono ?_
      rintro e w5 ⟨rfl, rfl⟩
      go_wp2_with fail
      refine (len_ref _ _ s g clock all va HP.out.drep (by omega)).mono ?_
      rintro e w6 ⟨rfl, rfl⟩
      rw [HAC.out]
      have k1 : (live == live) = true := by simp
      go_wp2_with fail
      refine (room_any _ _ s g sl fr live vs vf HP.out.rep (by omega) (by omega) (by omega) (by omega)).mono ?_
      rintro e w7 ⟨rfl, hb7⟩
      have HP7 := Lib.hid (HP.out.keep hb7)
      clear hb7
      go_wp2_with fail
      refine (room_ref _ _ s g clock all va HP7.out.drep (by omega) (HS.out.small HP.out.inv (by omega)) (by omega) (by omega)).mono ?_
      rintro e w8 ⟨rfl, hb8⟩
      rw [HRC.out]
      generalize s - (sl.length : Int) + (fr.length : Int) = rm
      have k2 : (rm == rm) = true := by simp
      have HP8 := Lib.hid (HP7.out.keep hb8)
      clear hb8
      go_wp2_with fail
      refine (walks_any _ _ _ s g clock s g sl fr live vs vf va all HP8.out.rep HP8.out.inv HP8.out.num HP8.out.drep HS.out (by omega)).mono ?_
      rintro e w9 ⟨rfl, hb9⟩
      have HP9 := Lib.hid (HP8.out.keep hb9)
      clear hb9
      go_wp2_with fail
      refine (awake_true _).mono ?_
      rintro e w10 ⟨rfl, hb10⟩
      have HP10 := Lib.hid (HP9.out.keep hb10)
      clear hb10
      go_wp2_with fail
      go_ret
      exact ⟨rfl, HP10.out.bel.ofEmpty⟩

set_option maxHeartbeats 2000000 in
set_option maxRecDepth 100000 in
theorem plays_bad (s g : Int) (sv : Value) (w : World) (hg : goodB s g = false) :
    Calls Try.prog 7 #[.int .i64 s, .int .i64 g, sv] w fun e w' => e = .returned (.bool true) ∧ Below w.heap.size w w' := by
  go_enter Try.func7, Try.ntmps7
  go_wp2_with fail
  refine (good_any s g _).mono ?_
  rintro e w3 ⟨rfl, rfl⟩
  rw [hg]
  clear hg
  go_wp2_with fail
  refine (awake_true _).mono ?_
  rintro e w7 ⟨rfl, hb7⟩
  go_wp2_with fail
  go_ret
  exact ⟨rfl, hb7⟩

theorem plays_law (s g : Int) (sv : Value) (n : Nat) (w : World) (hsc : Script w sv n) (hnb : n ≤ 262144) :
    Calls Try.prog 7 #[.int .i64 s, .int .i64 g, sv] w fun e w' => e = .returned (.bool true) ∧ Below w.heap.size w w' := by
  by_cases hg : goodB s g = true
  · exact plays_good s g sv n w hsc hnb hg
  · exact plays_bad s g sv w (by simpa using hg)
end Go.Proofs.Ytppoakomeaamhaa
