/- osierlaw03.ArenaFills, walked. -/
import Derived.Test.YtppoakomeaamhaaCl3
namespace Go.Proofs.Ytppoakomeaamhaa
open Go.RowKit
set_option linter.unusedVariables false

/-- The law's own memory: the arena at p, in new blocks. -/
structure FMem (w wr : World) (p : Nat) (most gens : Int) (sl : List Slot) (fr : List Int) (live : Int) (vs vf : Value) : Prop where
  rep : ARep wr 61 65 p most gens sl fr live vs vf
  inv : AInv most gens sl fr live
  num : Nums sl
  low : ∀ k, foot p vs vf k → w.heap.size ≤ k
  bel : Below w.heap.size w wr

section
variable {w wr wr' : World} {p : Nat} {most gens : Int} {sl sl' : List Slot} {fr fr' : List Int} {live live' : Int} {vs vf vs' vf' : Value}
theorem FMem.keep (h : FMem w wr p most gens sl fr live vs vf) (hb : Below wr.heap.size wr wr') : FMem w wr' p most gens sl fr live vs vf :=
  ⟨h.rep.keep hb, h.inv, h.num, h.low, h.bel.trans (hb.mono h.bel.size)⟩
theorem FMem.step (h : FMem w wr p most gens sl fr live vs vf) (hn : ANow wr wr' 61 65 p most gens sl' fr' live' vs vf vs' vf') (hi : AInv most gens sl' fr' live') (hu : Nums sl') : FMem w wr' p most gens sl' fr' live' vs' vf' := by
  refine ⟨hn.rep, hi, hu, ?_, h.bel.trans (hn.mod.below h.bel.size h.low)⟩
  intro k hf
  rcases Nat.lt_or_ge k wr.heap.size with hlt | hge
  · exact h.low k (hn.foots k hf hlt)
  · exact Nat.le_trans h.bel.size hge
end

theorem Nums.giveAll {V : Type} {gens : Int} : ∀ (xs : List (Nat × Int × V)) {S : List Slot × List Int}, Nums S.1 → Nums (giveAll gens (.int .i64 0) S xs).1 := by
  intro xs
  induction xs with
  | nil => intro S h; exact h
  | cons x xs ih => intro S h; exact ih (h.giveA x.1 x.2.1)

theorem fmem_start (w : World) (s g : Int) (h1 : 1 ≤ s) (h2 : s ≤ 1048576) (h3 : 1 ≤ g) (h4 : g ≤ 1073741824) : FMem w (w.alloc (.cells #[.int .i64 s, .int .i64 g, .slice none 0 0, .slice none 0 0, .int .i64 0] 61)) w.heap.size s g [] [] 0 (.slice none 0 0) (.slice none 0 0) := by
  refine ⟨empty_rep w _ _ s g, inv_empty s g h1 h2 h3 h4, Nums.nil, ?_, balloc (Below.refl _ _) _⟩
  rintro k (rfl | hk | hk)
  · exact Nat.le_refl _
  · cases hk
  · cases hk

set_option maxHeartbeats 8000000 in
set_option maxRecDepth 100000 in
theorem fills_good (s g : Int) (sv : Value) (n : Nat) (w : World) (hsc : Script w sv n) (hg : goodB s g = true) :
    Calls Try.prog 6 #[.int .i64 s, .int .i64 g, sv] w fun e w' => e = .returned (.bool true) ∧ Below w.heap.size w w' := by
  obtain ⟨h1, h2, h3, h4⟩ : 1 ≤ s ∧ s ≤ 1048576 ∧ 1 ≤ g ∧ g ≤ 1073741824 := by simpa [goodB] using hg
  obtain ⟨hn, ad, cap, rfl, hcells⟩ := hsc
  have HC := Lib.hid hcells
  clear hcells
  have HG := Lib.hid hg
  clear hg
  have HM0 := Lib.hid (fmem_start w s g h1 h2 h3 h4)
  go_enter Try.func6, Try.ntmps6
  go_wp2_with fail
  refine (new_good s g w h1 h2 h3 h4).mono ?_
  rintro e w1 ⟨rfl, rfl⟩
  go_wp2_with fail
  refine (good_any s g _).mono ?_
  rintro e w3 ⟨rfl, rfl⟩
  rw [HG.out]
  go_wp2_with fail
  go_loopw [41] (fun ix wr => ∃ (i : Nat) (sl : List Slot) (fr : List Int) (live : Int) (vs vf : Value), i ≤ n ∧ ix = .int .i64 i ∧ FMem w wr w.heap.size s g sl fr live vs vf) (fun ix _ => n - (intOf ix).toNat)
  case atStart => exact ⟨0, [], [], 0, _, _, Nat.zero_le _, rfl, HM0.out⟩
  case round =>
    obtain ⟨wo, rfl⟩ : ∃ wo : World, wo = wr := ⟨_, rfl⟩
    obtain ⟨i, sl, fr, live, vs, vf, hi, rfl, hom⟩ := hrel
    have HOM := Lib.hid hom
    have hinv := hom.inv
    have hcnt := hinv.count
    have hln := hinv.len
    clear hom
    by_cases hlt : i < n
    · clear hcnt hln hinv
      rcases HC.out with h0 | ⟨b, off, f, rfl, hb, hcs⟩
      · omega
      · obtain ⟨c0, c1, c2, c3⟩ := hcs i hlt
        have hcell : ∀ j v, w.cell? ⟨b, off + i * 4 + j, none⟩ = some v → wo.cell? ⟨b, off + i * 4 + j, none⟩ = some v := fun j v h => (HOM.out.bel.cell (p := ⟨b, off + i * 4 + j, none⟩) hb).trans h
        have c0 := hcell 0 _ c0
        have c1 := hcell 1 _ c1
        have c2 := hcell 2 _ c2
        have c3 := hcell 3 _ c3
        simp only [Nat.add_zero] at c0
        generalize f i = op at *
        obtain ⟨o0, o1, o2, o3⟩ := op
        simp only at c0 c1 c2 c3
        have hsz := HOM.out.bel.size
        clear hcs hcell
        have HB := Lib.hid (balloc (Below.refl wo.heap.size wo) (.cells #[.int .i64 o0, .int .i64 o1, .int .i64 o2, .int .i64 o3] 36))
        have HOB := Lib.hid (HOM.out.keep HB.out)
        by_cases hop : o0 = 2
        · subst hop
          by_cases hh : hit sl o1 o2
          · obtain ⟨j, s', rfl, hs', ha', rfl⟩ := hh
            have HS := Lib.hid hs'
            clear hs'
            go_wp2_with fail
            refine (give_any _ _ _ _ sl fr live vs vf HOB.out.rep HOB.out.inv j s' HS.out ha' s'.gen rfl).mono ?_
            rintro e w5 ⟨fr', vf', rfl, hnow, hinv', _⟩
            have HM5 := Lib.hid (HOB.out.step hnow hinv' (HOB.out.num.set _ _ ⟨0, rfl⟩))
            clear hnow hinv'
            go_wp2_with fail
            go_roundw
            case rel => exact ⟨i + 1, _, fr', live - 1, vs, vf', by omega, by go_num, HM5.out⟩
            case measure => simp only [intOf]; omega
          · have HH := Lib.hid hh
            clear hh
            go_wp2_with fail
            refine (give_no _ _ _ _ sl fr live vs vf HOB.out.rep o1 o2 HH.out).mono ?_
            rintro e w5 ⟨rfl, hb5⟩
            have HM5 := Lib.hid (HOB.out.keep hb5)
            clear hb5
            go_wp2_with fail
            go_roundw
            case rel => exact ⟨i + 1, sl, fr, live, vs, vf, by omega, by go_num, HM5.out⟩
            case measure => simp only [intOf]; omega
        · have k0 : (o0 == 2) = false := beq_eq_false_iff_ne.2 hop
          clear hop
          by_cases hop : o0 = 6
          · subst hop
            go_wp2_with fail
            refine (clear_any _ _ _ _ sl fr live vs vf HOB.out.rep HOB.out.inv HOB.out.num).mono ?_
            rintro e w5 ⟨rfl, vf', hnow, hinv'⟩
            have HM5 := Lib.hid (HOB.out.step hnow hinv' (HOB.out.num.giveAll _))
            clear hnow hinv'
            go_wp2_with fail
            go_roundw
            case rel => exact ⟨i + 1, _, _, _, vs, vf', by omega, by go_num, HM5.out⟩
            case measure => simp only [intOf]; omega
          · have k1 : (o0 == 6) = false := beq_eq_false_iff_ne.2 hop
            clear hop
            go_wp2_with fail
            refine (take_any _ _ _ _ sl fr live vs vf o3 HOB.out.rep HOB.out.inv).mono ?_
            rintro e w5 (⟨rfl, hb5, _, _⟩ | ⟨i', g', sl', fr', vs', vf', rfl, hnow, hinv', htk, _⟩)
            · have HM5 := Lib.hid (HOB.out.keep hb5)
              clear hb5
              go_wp2_with fail
              go_roundw
              case rel => exact ⟨i + 1, sl, fr, live, vs, vf, by omega, by go_num, HM5.out⟩
              case measure => simp only [intOf]; omega
            · have HM5 := Lib.hid (HOB.out.step hnow hinv' (HOB.out.num.taken htk))
              clear hnow hinv' htk
              go_wp2_with fail
              go_roundw
              case rel => exact ⟨i + 1, sl', fr', live + 1, vs', vf', by omega, by go_num, HM5.out⟩
              case measure => simp only [intOf]; omega
    · have hie : i = n := by omega
      subst hie
      have hm2 := hinv.m2
      clear hinv
      go_wp2_with fail
      refine (len_any _ _ _ _ sl fr live vs vf HOM.out.rep).mono ?_
      rintro e w3 ⟨rfl, rfl⟩
      go_wp2_with fail
      refine (room_any _ _ _ _ sl fr live vs vf HOM.out.rep (by omega) (by omega) (by omega) (by omega)).mono ?_
      rintro e w4 ⟨rfl, hb4⟩
      have HM4 := Lib.hid (HOM.out.keep hb4)
      clear hb4
      obtain ⟨room, hroom, hr0⟩ : ∃ room : Nat, s - (sl.length : Int) + (fr.length : Int) = (room : Int) ∧ room ≤ 1048576 := ⟨(s - (sl.length : Int) + (fr.length : Int)).toNat, by omega, by omega⟩
      obtain ⟨nl, hnl⟩ : ∃ nl : Nat, live = (nl : Int) := ⟨live.toNat, by omega⟩
      have q1 : decide ((nl : Int) < 0) = false := by simp
      have q2 : decide ((room : Int) < 0) = false := by simp
      have q3 : decide (s < (nl : Int)) = false := by simp; omega
      have q4 : decide (s - (nl : Int) < (room : Int)) = false := by simp; omega
      have q5 : (nl : Int) ≤ s := by omega
      have q6 : (room : Int) ≤ s - (nl : Int) := by omega
      have q7 : 0 ≤ s - (nl : Int) := by omega
      rw [hroom, hnl]
      have HRM := Lib.hid hroom
      have HNL := Lib.hid hnl
      clear hroom hnl
      have hrep : s - (sl.length : Int) + (fr.length : Int) = (room : Int) - ((0 : Nat) : Int) := by rw [HRM.out]; simp
      have HRP := Lib.hid hrep
      clear hrep hcnt hln
      by_cases hbig : 3000 < room
      · have q8 : (3000 : Int) < (room : Int) := by omega
        go_wp2_with fail
        refine (awake_true _).mono ?_
        rintro e w7 ⟨rfl, hb7⟩
        go_wp2_with fail
        go_ret
        exact ⟨rfl, HM4.out.bel.trans (hb7.mono HM4.out.bel.size)⟩
      · have q8 : (room : Int) ≤ 3000 := by omega
        clear hbig
        rw [HNL.out] at HM4
        go_wp2_with fail
        go_loopw [13] (fun ix wq => ∃ (j : Nat) (sl : List Slot) (fr : List Int) (vs vf : Value), j ≤ room ∧ ix = .int .i64 j ∧ Hid (s - (sl.length : Int) + (fr.length : Int) = (room : Int) - (j : Int)) ∧ FMem w wq w.heap.size s g sl fr ((nl : Int) + (j : Int)) vs vf) (fun ix _ => room - (intOf ix).toNat)
        case atStart => exact ⟨0, sl, fr, vs, vf, Nat.zero_le _, rfl, HRP, by simpa using HM4.out⟩
        case round =>
          obtain ⟨j, sl2, fr2, vs2, vf2, hj, rfl, HR2, hm⟩ := hrel
          have HM := Lib.hid hm
          clear hm
          by_cases hlj : j < room
          · go_wp2_with fail
            refine (take_any _ _ _ _ sl2 fr2 _ vs2 vf2 j HM.out.rep HM.out.inv).mono ?_
            rintro e w5 (⟨rfl, _, hf, hm⟩ | ⟨i', g', sl', fr', vs', vf', rfl, hnow, hinv', htk, hrm⟩)
            · exfalso
              have := HR2.out
              rw [hf] at this
              simp at this
              omega
            · have HM5 := Lib.hid (HM.out.step hnow hinv' (HM.out.num.taken htk))
              have HR3 : Hid (s - (sl'.length : Int) + (fr'.length : Int) = (room : Int) - ((j + 1 : Nat) : Int)) := by have := HR2.out; unfold Hid; omega
              clear hnow hinv' htk hrm
              go_wp2_with fail
              go_roundw
              case rel => exact ⟨j + 1, sl', fr', vs', vf', by omega, by go_num, HR3, by rw [show ((nl : Int) + ((j + 1 : Nat) : Int)) = (nl : Int) + (j : Int) + 1 by omega]; exact HM5.out.keep (balloc (Below.refl _ _) _)⟩
              case measure => simp only [intOf]; omega
          · have hje : j = room := by omega
            subst hje
            obtain ⟨w6, rfl⟩ : ∃ w6 : World, w6 = wr := ⟨_, rfl⟩
            go_wp2_with fail
            refine (take_any _ _ _ _ sl2 fr2 _ vs2 vf2 0 HM.out.rep HM.out.inv).mono ?_
            rintro e w5 (⟨rfl, hb5, hf, hm⟩ | ⟨i', g', sl', fr', vs', vf', rfl, hnow, hinv', htk, hrm⟩)
            · have HM5 := Lib.hid ((HM.out.keep hb5).keep (balloc (Below.refl _ _) (.cells #[.int .i64 0, .int .i64 0] 40)))
              have hln := HM.out.inv.len
              clear hb5 hf hm
              go_wp2_with fail
              refine (room_any _ _ _ _ sl2 fr2 _ vs2 vf2 HM5.out.rep (by omega) (by omega) (by omega) (by have := HR2.out; omega)).mono ?_
              rintro e w7 ⟨rfl, hb7⟩
              rw [HR2.out]
              have HM7 := Lib.hid (HM5.out.keep hb7)
              clear hb7
              have z0 : (j : Int) - (j : Int) = 0 := by omega
              rw [z0]
              go_wp2_with fail
              refine (len_any _ _ _ _ sl2 fr2 _ vs2 vf2 HM7.out.rep).mono ?_
              rintro e w8 ⟨rfl, rfl⟩
              go_wp2_with fail
              refine (awake_true _).mono ?_
              rintro e w9 ⟨rfl, hb9⟩
              go_wp2_with fail
              go_ret
              exact ⟨rfl, HM7.out.bel.trans (hb9.mono HM7.out.bel.size)⟩
            · exfalso
              have := HR2.out
              have := hinv'.len
              omega

set_option maxHeartbeats 2000000 in
set_option maxRecDepth 100000 in
theorem fills_bad (s g : Int) (sv : Value) (w : World) (hg : goodB s g = false) :
    Calls Try.prog 6 #[.int .i64 s, .int .i64 g, sv] w fun e w' => e = .returned (.bool true) ∧ Below w.heap.size w w' := by
  go_enter Try.func6, Try.ntmps6
  go_wp2_with fail
  refine (new_bad s g w hg).mono ?_
  rintro e w1 ⟨rfl, rfl⟩
  go_wp2_with fail
  refine (good_any s g _).mono ?_
  rintro e w3 ⟨rfl, rfl⟩
  rw [hg]
  clear hg
  go_wp2_with fail
  refine (awake_true _).mono ?_
  rintro e w7 ⟨rfl, hb7⟩
  go_wp2_with fail
  go_ret
  exact ⟨rfl, hb7⟩

theorem fills_law (s g : Int) (sv : Value) (n : Nat) (w : World) (hsc : Script w sv n) :
    Calls Try.prog 6 #[.int .i64 s, .int .i64 g, sv] w fun e w' => e = .returned (.bool true) ∧ Below w.heap.size w w' := by
  by_cases hg : goodB s g = true
  · exact fills_good s g sv n w hsc hg
  · exact fills_bad s g sv w (by simpa using hg)
end Go.Proofs.Ytppoakomeaamhaa
