/- osierlaw03.ArenaTwo, walked. -/
import Derived.Test.YtppoakomeaamhaaTw0
namespace Go.Proofs.Ytppoakomeaamhaa
open Go.RowKit
set_option linter.unusedVariables false

/-- A script of operations, each with its number within its kind. -/
def ScriptR (w : World) (sv : Value) (n : Nat) : Prop :=
  n ≤ 4398046511104 ∧ ∃ (ad : Option Addr) (cap : Nat), sv = .slice ad n cap ∧
    (n = 0 ∨ ∃ (b off : Nat) (f : Nat → Int × Int × Int × Int), ad = some ⟨b, off, none⟩ ∧ b < w.heap.size ∧ ∀ i, i < n →
      w.cell? ⟨b, off + i * 4, none⟩ = some (.int .i64 (f i).1) ∧ w.cell? ⟨b, off + i * 4 + 1, none⟩ = some (.int .i64 (f i).2.1) ∧
      w.cell? ⟨b, off + i * 4 + 2, none⟩ = some (.int .i64 (f i).2.2.1) ∧ w.cell? ⟨b, off + i * 4 + 3, none⟩ = some (.int .i64 (f i).2.2.2) ∧
      -9223372036854775808 ≤ (f i).2.2.2 ∧ (f i).2.2.2 ≤ 9223372036854775807)

set_option maxHeartbeats 8000000 in
set_option maxRecDepth 100000 in
theorem two_good (s g : Int) (sv : Value) (n : Nat) (w : World) (hsc : ScriptR w sv n) (hnb : n ≤ 262144) (hg : goodB s g = true) (hs2 : s ≤ 524288) (hg2 : g ≤ 536870912) :
    Calls Try.prog 8 #[.int .i64 s, .int .i64 g, sv] w fun e w' => e = .returned (.bool true) ∧ Below w.heap.size w w' := by
  obtain ⟨h1, h2, h3, h4⟩ : 1 ≤ s ∧ s ≤ 1048576 ∧ 1 ≤ g ∧ g ≤ 1073741824 := by simpa [goodB] using hg
  obtain ⟨hn, ad, cap, rfl, hcells⟩ := hsc
  have HC := Lib.hid hcells
  clear hcells
  have HG := Lib.hid hg
  clear hg
  have HM0 := Lib.hid (dual_start w s g (s + 1) (g + 1) h1 h2 h3 h4 (by omega) (by omega) (by omega) (by omega))
  go_enter Try.func8, Try.ntmps8
  go_wp2_with fail
  refine (good_any s g _).mono ?_
  rintro e w3 ⟨rfl, rfl⟩
  rw [HG.out]
  have q1 : decide (524288 < s) = false := by simp; omega
  have q2 : decide (536870912 < g) = false := by simp; omega
  go_wp2_with fail
  refine (new_good s g w h1 h2 h3 h4).mono ?_
  rintro e w1 ⟨rfl, rfl⟩
  go_wp2_with fail
  refine (news_good (s + 1) (g + 1) _ (by omega) (by omega) (by omega) (by omega)).mono ?_
  rintro e w2 ⟨rfl, rfl⟩
  simp only [World.size_alloc]
  go_wp2_with fail
  go_loopw [68] (fun ix wr => ∃ (i : Nat), i ≤ n ∧ ix = .int .i64 i ∧ Dual w w.heap.size (w.heap.size + 1 + 1) (w.heap.size + 1) (w.heap.size + 1 + 1 + 1) s g (s + 1) (g + 1) i i ((i : Int) * 1048576) ((i : Int) * 1048576) wr) (fun ix _ => n - (intOf ix).toNat)
  case atStart => exact ⟨0, Nat.zero_le _, rfl, by simpa using HM0.out⟩
  case round =>
    obtain ⟨wo, rfl⟩ : ∃ wo : World, wo = wr := ⟨_, rfl⟩
    obtain ⟨i, hi, rfl, hom⟩ := hrel
    have HOM := Lib.hid hom
    clear hom
    by_cases hlt : i < n
    · rcases HC.out with h0 | ⟨b, off, f, rfl, hb, hcs⟩
      · omega
      · obtain ⟨c0, c1, c2, c3, hr0, hr1⟩ := hcs i hlt
        have hbel := HOM.out.below
        have hcell : ∀ j v, w.cell? ⟨b, off + i * 4 + j, none⟩ = some v → wo.cell? ⟨b, off + i * 4 + j, none⟩ = some v := fun j v h => (hbel.cell (p := ⟨b, off + i * 4 + j, none⟩) hb).trans h
        have c0 := hcell 0 _ c0
        have c1 := hcell 1 _ c1
        have c2 := hcell 2 _ c2
        have c3 := hcell 3 _ c3
        simp only [Nat.add_zero] at c0
        generalize f i = op at *
        obtain ⟨o0, o1, o2, o3⟩ := op
        simp only at c0 c1 c2 c3 hr0 hr1
        have hsz := hbel.size
        clear hcs hcell hbel
        go_wp2_with fail
        refine (dual_step w wo _ _ _ _ _ s g (s + 1) (g + 1) i i ((i : Int) * 1048576) ((i : Int) * 1048576) HOM.out (balloc (Below.refl _ _) _) (by omega) (by omega) o0 o1 o2 o3).mono ?_
        rintro e w5 ⟨rfl, hst, hz5, hce⟩
        have HST := Lib.hid hst
        have d0 := hce ⟨wo.heap.size, 0, none⟩ (Nat.le_refl _) (by simp)
        have d1 := hce ⟨wo.heap.size, 1, none⟩ (Nat.le_refl _) (by simp)
        have d2 := hce ⟨wo.heap.size, 2, none⟩ (Nat.le_refl _) (by simp)
        have d3 := hce ⟨wo.heap.size, 3, none⟩ (Nat.le_refl _) (by simp)
        simp at d0 d1 d2 d3 hz5
        have hz6 : wo.heap.size < w5.heap.size := by omega
        clear hst hce
        go_wp2_with fail
        refine (dual_twin w w5 w5 _ _ _ _ s g (s + 1) (g + 1) (i + 1) i ((i : Int) * 1048576 + 1048576) ((i : Int) * 1048576) HST.out (Below.refl _ _) (by omega) (by omega) o0 o1 o2 o3 hr0 hr1).mono ?_
        rintro e w6 ⟨rfl, hst6, hz7⟩
        have HST6 := Lib.hid hst6
        clear hst6
        go_wp2_with fail
        go_roundw
        case rel => exact ⟨i + 1, by omega, by go_num, HST6.out.weaken (by omega) (by omega) (by omega) (by omega)⟩
        case measure => simp only [intOf]; omega
    · have hie : i = n := by omega
      subst hie
      obtain ⟨sl, fr, vs, vf, all, clock, va, sl2, fr2, vs2, vf2, all2, clock2, va2, hp, hs, hl, hc, kp, ks, kl, kc, _⟩ := HOM.out
      have hcnt := hp.inv.count
      have hln := hp.inv.len
      have kcnt := kp.inv.count
      have kln := kp.inv.len
      have ha := hs.aliveCount hp.inv
      have ka := ks.aliveCount kp.inv
      have kr := ks.roomEq kp.inv
      have hck := hs.clk
      have kck := ks.clk
      have hlm : (sl2.map toS).length = sl2.length := List.length_map ..
      have HP := Lib.hid hp
      have HS := Lib.hid hs
      have HAC := Lib.hid ha
      have KP := Lib.hid kp
      have KS := Lib.hid ks
      have KAC := Lib.hid ka
      have KRC := Lib.hid kr
      have HLM := Lib.hid hlm
      clear hp hs ha kp ks ka kr hlm
      generalize liveN sl = live at *
      generalize liveN sl2 = live2 at *
      go_wp2_with fail
      refine (len_any _ _ s g sl fr live vs vf HP.out.rep).mono ?_
      rintro e w5 ⟨rfl, rfl⟩
      go_wp2_with fail
      refine (len_ref _ _ s g clock all va HP.out.drep (by omega)).mono ?_
      rintro e w6 ⟨rfl, rfl⟩
      rw [HAC.out]
      have k1 : (live == live) = true := by simp
      go_wp2_with fail
      refine (Str.len_any _ _ (s + 1) (g + 1) (sl2.map toS) fr2 live2 vs2 vf2 KP.out.rep).mono ?_
      rintro e w5 ⟨rfl, rfl⟩
      go_wp2_with fail
      refine (len_ref _ _ (s + 1) (g + 1) clock2 all2 va2 KP.out.drep (by omega)).mono ?_
      rintro e w6 ⟨rfl, rfl⟩
      rw [KAC.out]
      have k2 : (live2 == live2) = true := by simp
      go_wp2_with fail
      refine (Str.room_any _ _ (s + 1) (g + 1) (sl2.map toS) fr2 live2 vs2 vf2 KP.out.rep (by omega) (by omega) (by rw [HLM.out]; omega) (by omega)).mono ?_
      rintro e w7 ⟨rfl, hb7⟩
      have KP7 := Lib.hid (KP.out.keep hb7)
      have HP7 := Lib.hid (HP.out.keep hb7)
      clear hb7
      rw [HLM.out]
      go_wp2_with fail
      refine (room_ref _ _ (s + 1) (g + 1) clock2 all2 va2 KP7.out.drep (by omega) (KS.out.small KP.out.inv (by omega)) (by omega) (by omega)).mono ?_
      rintro e w8 ⟨rfl, hb8⟩
      rw [KRC.out]
      generalize s + 1 - (sl2.length : Int) + (fr2.length : Int) = rm
      have k3 : (rm == rm) = true := by simp
      have HP8 := Lib.hid (HP7.out.keep hb8)
      clear hb8
      go_wp2_with fail
      refine (awake_true _).mono ?_
      rintro e w10 ⟨rfl, hb10⟩
      have HP10 := Lib.hid (HP8.out.keep hb10)
      clear hb10
      go_wp2_with fail
      go_ret
      exact ⟨rfl, HP10.out.bel.ofEmpty⟩

set_option maxHeartbeats 2000000 in
set_option maxRecDepth 100000 in
theorem two_bad (s g : Int) (sv : Value) (w : World) (hg : goodB s g = false ∨ 524288 < s ∨ 536870912 < g) :
    Calls Try.prog 8 #[.int .i64 s, .int .i64 g, sv] w fun e w' => e = .returned (.bool true) ∧ Below w.heap.size w w' := by
  cases hgb : goodB s g with
  | false =>
    have HB := Lib.hid hgb
    clear hgb hg
    go_enter Try.func8, Try.ntmps8
    go_wp2_with fail
    refine (good_any s g _).mono ?_
    rintro e w3 ⟨rfl, rfl⟩
    rw [HB.out]
    go_wp2_with fail
    refine (awake_true _).mono ?_
    rintro e w7 ⟨rfl, hb7⟩
    go_wp2_with fail
    go_ret
    exact ⟨rfl, hb7⟩
  | true =>
    have HB := Lib.hid hgb
    by_cases h1 : 524288 < s
    · have q1 : decide (524288 < s) = true := by simpa using h1
      clear hgb hg
      go_enter Try.func8, Try.ntmps8
      go_wp2_with fail
      refine (good_any s g _).mono ?_
      rintro e w3 ⟨rfl, rfl⟩
      rw [HB.out]
      go_wp2_with fail
      refine (awake_true _).mono ?_
      rintro e w7 ⟨rfl, hb7⟩
      go_wp2_with fail
      go_ret
      exact ⟨rfl, hb7⟩
    · have h2 : 536870912 < g := by
        rcases hg with h | h | h
        · rw [h] at hgb; cases hgb
        · exact absurd h h1
        · exact h
      have q1 : decide (524288 < s) = false := by simpa using h1
      have q2 : decide (536870912 < g) = true := by simpa using h2
      clear hgb hg
      go_enter Try.func8, Try.ntmps8
      go_wp2_with fail
      refine (good_any s g _).mono ?_
      rintro e w3 ⟨rfl, rfl⟩
      rw [HB.out]
      go_wp2_with fail
      refine (awake_true _).mono ?_
      rintro e w7 ⟨rfl, hb7⟩
      go_wp2_with fail
      go_ret
      exact ⟨rfl, hb7⟩

theorem two_law (s g : Int) (sv : Value) (n : Nat) (w : World) (hsc : ScriptR w sv n) (hnb : n ≤ 262144) :
    Calls Try.prog 8 #[.int .i64 s, .int .i64 g, sv] w fun e w' => e = .returned (.bool true) ∧ Below w.heap.size w w' := by
  by_cases hg : goodB s g = false ∨ 524288 < s ∨ 536870912 < g
  · exact two_bad s g sv w hg
  · refine two_good s g sv n w hsc hnb ?_ (by omega) (by omega)
    cases h : goodB s g with
    | false => exact absurd (.inl h) hg
    | true => rfl
end Go.Proofs.Ytppoakomeaamhaa
