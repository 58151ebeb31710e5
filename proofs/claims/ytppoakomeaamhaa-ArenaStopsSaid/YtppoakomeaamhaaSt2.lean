/- osierlaw03.ArenaStops, walked. -/
import Derived.Test.YtppoakomeaamhaaSt1
namespace Go.Proofs.Ytppoakomeaamhaa
open Go.RowKit Go.Shelf
attribute [local go_sem] Oper.semAt_some
set_option linter.unusedVariables false

set_option maxRecDepth 100000 in
set_option maxHeartbeats 4000000 in
theorem stops_bad (takes stop : Int) (w : World) (hb : takes < 0 ∨ 2000 < takes) :
    Calls Try.prog 5 #[.int .i64 takes, .int .i64 stop] w fun e w' => e = .returned (.bool true) ∧ Below w.heap.size w w' := by
  refine (callsIn_wide (n := 9)).1 ?_
  refine callsIn_of_wp_marks Try.func5 rfl trivial ?_ rfl
  simp only [Try.ntmps5, List.size_toArray, List.length_cons, List.length_nil, Nat.reduceAdd, Nat.reduceSub, Array.replicate_succ, Array.replicate_zero, List.push_toArray, List.append_toArray, List.nil_append, List.cons_append]
  have hx4 : Blk ((w.alloc (.cells #[.int .i64 stop] 3)).alloc (.cells #[.bool false] 4)) (w.heap.size + 1) 4 #[.bool false] := by
    have := Blk.new (w.alloc (.cells #[.int .i64 stop] 3)) 4 #[.bool false]
    rwa [World.size_alloc] at this
  have hb2 : Below w.heap.size w ((w.alloc (.cells #[.int .i64 stop] 3)).alloc (.cells #[.bool false] 4)) := balloc (balloc (Below.refl _ _) _) _
  have HX4 := Lib.hid hx4
  have HB2 := Lib.hid hb2
  clear hx4 hb2
  rcases hb with hb | hb
  all_goals
    gi_wp2_with fail
    refine ⟨trivial, ?_⟩
    refine (callsIn_wide.2 (awake_true _)).mono ?_
    rintro e w7 ⟨rfl, hb7⟩
    have hx := HX4.out.mod (F := fun _ => False) (Mod.ofBelow hb7) (fun f => f)
    have c4 := hx.cell 0
    have f4 := hx.frozen 0
    simp at c4
    have HB7 := Lib.hid (HB2.out.trans (hb7.mono HB2.out.size))
    have hc5 := World.cell?_setCell_same' w7 ⟨w.heap.size + 1, 0, none⟩ (.bool true) (by rw [c4]; rfl)
    have HC5 := Lib.hid hc5
    clear hb7 hx hc5
    gi_wp2
    have hc5 := HC5.out
    exact ⟨.bool true, by simp [results, Try.f5, go_sem, hc5], rfl, HB7.out.setCell (p := ⟨w.heap.size + 1, 0, none⟩) (by simp) _⟩

set_option maxRecDepth 100000 in
set_option maxHeartbeats 16000000 in
theorem stops_good (t : Nat) (stop : Int) (w : World) (ht : t ≤ 2000) :
    Calls Try.prog 5 #[.int .i64 (t : Int), .int .i64 stop] w fun e w' => e = .returned (.bool true) ∧ Below w.heap.size w w' := by
  refine (callsIn_wide (n := 9)).1 ?_
  refine callsIn_of_wp_marks Try.func5 rfl trivial ?_ rfl
  simp only [Try.ntmps5, List.size_toArray, List.length_cons, List.length_nil, Nat.reduceAdd, Nat.reduceSub, Array.replicate_succ, Array.replicate_zero, List.push_toArray, List.append_toArray, List.nil_append, List.cons_append]
  have q1 : decide ((t : Int) < 0) = false := by simp
  have q2 : decide ((2000 : Int) < (t : Int)) = false := by simp; omega
  have ht' : (t : Int) ≤ 2000 := by omega
  gi_wp2_with fail
  refine ⟨trivial, ?_⟩
  refine (callsIn_wide.2 (new_good 3000 9 _ (by omega) (by omega) (by omega) (by omega))).mono ?_
  rintro e w1 ⟨rfl, rfl⟩
  have HT0 := Lib.hid (stt_start w stop)
  gi_wp2_with fail
  gi_loopw [7] (fun ix wr => ∃ (k : Nat) (vs vf : Value), k ≤ t ∧ ix = .int .i64 k ∧ StT w wr w.heap.size (w.heap.size + 1) (w.heap.size + 1 + 1 + 1) (w.heap.size + 1 + 1) stop (first k) [] (k : Int) vs vf) (fun ix _ => t - (intOf ix).toNat)
  case atStart => exact ⟨0, _, _, Nat.zero_le _, rfl, HT0.out⟩
  case round =>
    obtain ⟨k, vs, vf, hk, rfl, hst⟩ := hrel
    have x5 := hst.x5.cell 0
    simp at x5
    have HST := Lib.hid hst
    clear hst
    by_cases hlt : k < t
    · gi_wp2_with fail
      refine ⟨trivial, ?_⟩
      refine (callsIn_wide.2 (take_new _ _ _ _ (first k) k vs vf k HST.out.rep (by rw [first_len]; omega) (by rw [first_len]; omega) (by omega) (by omega))).mono ?_
      rintro e w5 ⟨rfl, vs', hnow⟩
      rw [← first_succ] at hnow
      have hinv := inv_new HST.out.inv (by rw [first_len]; omega) (.int .i64 (k : Int))
      rw [← first_succ] at hinv
      have HS5 := Lib.hid (HST.out.step hnow hinv (first_nums _))
      clear hnow hinv
      gi_wp2
      go_roundw
      case rel => exact ⟨k + 1, vs', vf, by omega, by go_num, by simpa using HS5.out⟩
      case measure => simp only [intOf]; omega
    · have hke : k = t := by omega
      subst hke
      obtain ⟨w6, rfl⟩ : ∃ w6 : World, w6 = wr := ⟨_, rfl⟩
      have hm := HST.out.toM
      have x5' := hm.x5.cell 0
      simp at x5'
      have HM := Lib.hid hm
      clear hm
      gi_wp2_with fail
      refine ⟨trivial, ?_⟩
      refine (callsIn_wide.2 (all_any _ _)).mono ?_
      rintro e w7 ⟨rfl, rfl⟩
      gi_wp2_with fail
      obtain ⟨W0, hW0⟩ : ∃ W0, ((w6.alloc (.cells #[.int .i64 0] 3)).alloc (.cells #[.pointer (some ⟨w.heap.size + 1 + 1, 0, none⟩)] 30)) = W0 := ⟨_, rfl⟩
      have hz0 : W0.heap.size = w6.heap.size + 1 + 1 := by rw [← hW0]; simp
      have hM0 := HM.out.keep (balloc (Below.refl _ _) (.cells #[.pointer (some ⟨w.heap.size + 1 + 1, 0, none⟩)] 30))
      rw [hW0] at hM0
      have hby : W0.cell? ⟨w6.heap.size + 1, 0, none⟩ = some (.pointer (some ⟨w.heap.size + 1 + 1, 0, none⟩)) := by
        rw [← hW0]
        simp
      have hws := hM0.bel.size
      have hpl := hM0.rep.blk.lt
      rw [hW0]
      refine wpIn_rangeFunc_ownH rfl (by omega) (gf := 28) (lb := #[.pointer (some ⟨w6.heap.size + 1, 0, none⟩)]) rfl trivial (enters_of Try.func28 (by kernel_rfl) rfl)
        (all_stops 8 (by omega) (w6.heap.size + 1) (w.heap.size + 1 + 1) 3000 9 (first k) [] (k : Int) vs vf W0 hby hM0.rep (first_nums _) (by rw [first_len]; omega)) (fun h k => KArena.trans h k) (KArena.put hpl) (Below.refl _ _) (fun _ => rfl)
        (fun pre W => StI w w6.heap.size stop pre.length W ∧ ∀ j, j < pre.length → (j : Int) ≠ stop)
        (fun c pre W => StX w w6.heap.size stop c pre W)
        (fun pre A B row hs hg hr => ⟨hs.1.other hg (fun r e => ⟨by have := (hr r e).1; omega, (hr r e).2⟩), hs.2⟩)
        (fun c pre A B row hs hg hr => by
          obtain ⟨pre0, x, he, h | ⟨h1, h2, h3⟩⟩ := hs
          · exact ⟨pre0, x, he, .inl h⟩
          · exact ⟨pre0, x, he, .inr ⟨h1, h2, h3.other hg (fun r e => ⟨by have := (hr r e).1; omega, (hr r e).2⟩)⟩⟩)
        ⟨⟨_, _, _, _, _, hM0⟩, by simp⟩
        (fun x a' W => ∃ Bx, Blk W Bx 40 #[.int .i64 (x.1 : Int), .int .i64 x.2.1] ∧ a' = { tmps := #[.int .i64 (k : Int), .int .i64 stop, undef, .pointer (some ⟨w.heap.size, 0, none⟩), .pointer (some ⟨w.heap.size + 1, 0, none⟩), .pointer (some ⟨w.heap.size + 1 + 1 + 1, 0, none⟩), .int .i64 0,
          .int .i64 (k : Int), .pointer (some ⟨w6.heap.size, 0, none⟩), .pointer (some ⟨Bx, 0, none⟩), .int .i64 x.2.2,
          .int .i64 (k : Int), .bool false, .bool false, .int .i64 (k : Int), .bool false, .bool false, undef,
          .tuple #[.pointer (some ⟨w.heap.size + 1 + 1, 0, none⟩), .int .i64 0], .tuple #[.pointer (some ⟨w.heap.size + 1 + 1, 0, none⟩), .int .i64 0],
          .pointer (some ⟨w.heap.size + 1 + 1, 0, none⟩), .int .i64 0, .int .i64 0, .bool false, .bool false,
          .pointer (some ⟨w.heap.size + 1 + 1, 0, none⟩), .bool false, .bool false, .int .i64 (k : Int), .int .i64 (k : Int), .bool false, u31, u32, u33, u34, u35,
          .pointer (some ⟨w.heap.size + 1 + 1, 0, none⟩), .func (.func 28) #[] #[.pointer (some ⟨w6.heap.size + 1, 0, none⟩)], .agg #[.int .i64 (x.1 : Int), .int .i64 x.2.1], .int .i64 x.2.2,
          undef, undef, undef, undef, undef, undef, undef, undef, undef, undef, undef, undef, undef, undef, undef, undef, undef, undef, undef, undef, undef, undef, undef, undef, undef, undef, undef, undef, undef, undef, undef, undef, undef, undef, undef, undef, undef, undef, undef, undef, undef, undef, undef], defers := [] })
        (fun x a' _ A B row hs hg hr => by obtain ⟨Bx, h1, h2⟩ := hs; exact ⟨Bx, blk_other h1 hg (fun r e => (hr r e).2), h2⟩)
        ?assign ?body ?done ?stop
      case assign =>
        rintro l pre x W K ⟨hi, hj⟩ hK
        have hpW : w.heap.size + 1 + 1 < W.heap.size := by obtain ⟨_, _, _, _, _, h1⟩ := hi; exact h1.rep.blk.lt
        have HI' := Lib.hid hi
        have HJ' := Lib.hid hj
        clear hi hj hW0
        simp only [encT]
        gi_wp2
        exact hK _ _ ((KeepsOthers.alloc _ _).from _) (KArena.below hpW (balloc (Below.refl _ _) _)) ⟨HI'.out.keep (balloc (Below.refl _ _) _), HJ'.out⟩ ⟨W.heap.size, Blk.new W _ _, rfl⟩
      case body =>
        rintro l pre x a' W hl ⟨r, hr⟩ ⟨hi, hj⟩ ⟨Bx, hB, rfl⟩ hlen
        obtain ⟨i, g, v⟩ := x
        obtain ⟨sl, fr, live, vs, vf, hm⟩ := hi
        generalize hml : pre.length = m at *
        have b0 := hB.cell 0
        have b1 := hB.cell 1
        have x3 := hm.x3.cell 0
        have x5 := hm.x5.cell 0
        have x8 := hm.x8.cell 0
        have y8 := hm.x8.frozen 0
        obtain ⟨r4, hx4⟩ := hm.x4
        have x4 := hx4.cell 0
        have y4 := hx4.frozen 0
        simp at b0 b1 x3 x4 x5 x8
        have HM := Lib.hid hm
        have HJ := Lib.hid hj
        have HR := Lib.hid hr
        have HB := Lib.hid hB
        have HML := Lib.hid hml
        rw [first_len] at hlen
        clear hm hj hr hB hx4 hW0 hml
        have HSI := Lib.hid (show StI w w6.heap.size stop m W from ⟨_, _, _, _, _, HM.out⟩)
        by_cases hst : (m : Int) = stop
        · subst hst
          have k1 : ((m : Int) == (m : Int)) = true := by simp
          gi_wp2_with fail
          exact ⟨KeepsFrom.refl _ _, pre, (i, g, v), rfl, .inr ⟨rfl, by rw [HML.out], by rw [HML.out]; exact HSI.out⟩⟩
        · have k1 : ((m : Int) == stop) = false := beq_eq_false_iff_ne.2 hst
          have HST := Lib.hid hst
          clear hst
          by_cases hx : (i, g, v) = ((m, 1, (m : Int)) : Told)
          · simp only [Prod.mk.injEq] at hx
            obtain ⟨rfl, rfl, rfl⟩ := hx
            have k2 : ((i : Int) != (i : Int)) = false := by simp
            have hall : Hid (∀ j, j < (pre ++ [((i, 1, (i : Int)) : Told)]).length → (j : Int) ≠ stop) := by
              intro j hj
              simp at hj
              rw [HML.out] at hj
              by_cases e : j = i
              · subst e; exact HST.out
              · exact HJ.out j (by omega)
            have hlen2 : Hid ((pre ++ [((i, 1, (i : Int)) : Told)]).length = i + 1) := by simp [HML.out, Hid]
            by_cases h3 : (i : Int) % 3 = 0
            · have k3 : ((i : Int) % 3 == 0) = true := beq_iff_eq.2 h3
              clear h3
              gi_wp2_with fail
              refine ⟨trivial, ?_⟩
              refine (CallsIn.inRound l (callsIn_wide.2 (give_st w W _ stop i _ _ HSI.out))).mono ?_
              rintro e w7 ⟨a7, rfl, hs7, hk7⟩
              obtain ⟨x8, y8, x5, x3, ⟨r7, x4⟩, y4⟩ := hs7.seen
              have HS7 := Lib.hid hs7
              have HK7 := Lib.hid hk7
              clear hs7 hk7
              gi_wp2_with fail
              refine ⟨trivial, ?_⟩
              refine (CallsIn.inRound l (callsIn_wide.2 (take_st w w7 _ stop i _ HS7.out))).mono ?_
              rintro e w8 ⟨a8, b8, c8, rfl, hs8, hk8⟩
              clear x8 y8 x5 x3 x4 y4
              obtain ⟨x8, y8, x5, x3, ⟨r8, x4⟩, y4⟩ := hs8.seen
              have HS8 := Lib.hid hs8
              have HK8 := Lib.hid hk8
              clear hs8 hk8
              gi_wp2_with fail
              refine ⟨trivial, ?_⟩
              refine (CallsIn.inRound l (callsIn_wide.2 (take_st w w8 _ stop i _ HS8.out))).mono ?_
              rintro e w9 ⟨a9, b9, c9, rfl, hs9, hk9⟩
              clear x8 y8 x5 x3 x4 y4
              obtain ⟨x8, y8, x5, x3, ⟨r9, x4⟩, y4⟩ := hs9.seen
              have HS9 := Lib.hid hs9
              have HK9 := Lib.hid hk9
              clear hs9 hk9
              obtain ⟨q1, q2⟩ := HS9.out.more
              have HQ1 := Lib.hid q1
              have HQ2 := Lib.hid q2
              clear q1 q2
              gi_wp2
              have hbk := ((HK7.out.trans HK8.out).trans HK9.out).trans HQ2.out
              exact ⟨hbk.k.from _, hbk.a, by rw [hlen2.out]; exact HQ1.out, hall.out⟩
            · have k3 : ((i : Int) % 3 == 0) = false := beq_eq_false_iff_ne.2 h3
              clear h3
              obtain ⟨q1, q2⟩ := HSI.out.more
              have HQ1 := Lib.hid q1
              have HQ2 := Lib.hid q2
              clear q1 q2
              gi_wp2
              exact ⟨HQ2.out.k.from _, HQ2.out.a, by rw [hlen2.out]; exact HQ1.out, hall.out⟩
          · have hor : ((i : Int) == (m : Int)) = false ∨ (i = m ∧ (g == 1) = false) ∨ (i = m ∧ g = 1 ∧ (v != (m : Int)) = true) := by
              by_cases e1 : i = m
              · by_cases e2 : g = 1
                · exact .inr (.inr ⟨e1, e2, bne_iff_ne.2 (fun e3 => hx (by rw [e1, e2, e3]))⟩)
                · exact .inr (.inl ⟨e1, beq_eq_false_iff_ne.2 e2⟩)
              · exact .inl (beq_eq_false_iff_ne.2 (by omega))
            have HX := Lib.hid hx
            clear hx
            rcases hor with hor | ⟨rfl, hor⟩ | ⟨rfl, rfl, hor⟩
            all_goals
              gi_wp2
              exact ⟨(KeepsOthers.setCell _ _ _).from _, pre, _, rfl, .inl ⟨rfl, by rw [HML.out]; exact HX.out⟩⟩
      case done =>
        rintro D ys W hD rfl ⟨hi, hj⟩ hK
        have hyl : (told numV (first k) (first k).length).length = k := by rw [first_len, first_told k k (Nat.le_refl _)]; simp
        rw [hyl] at hi hj
        obtain ⟨x8, y8, x5, x3, ⟨r4, x4⟩, y4⟩ := hi.seen
        have HSI := Lib.hid hi
        have HJ := Lib.hid hj
        clear hi hj hW0 hyl
        by_cases hs : 0 ≤ stop ∧ stop ≤ (k : Int)
        · obtain ⟨hs0, hs1⟩ := hs
          have hse : (k : Int) = stop := by
            by_cases e : (k : Int) = stop
            · exact e
            · exact absurd (show ((stop.toNat : Nat) : Int) = stop by omega) (HJ.out stop.toNat (by omega))
          subst hse
          gi_wp2_with fail
          refine ⟨trivial, ?_⟩
          refine (callsIn_wide.2 (awake_true _)).mono ?_
          rintro e w9 ⟨rfl, hb9⟩
          obtain ⟨_, _, _, _, ⟨r9, x4⟩, y4⟩ := (HSI.out.keep hb9).seen
          have hc5 := World.cell?_setCell_same' w9 ⟨w.heap.size + 1, 0, none⟩ (.bool true) (by rw [x4]; rfl)
          have HC5 := Lib.hid hc5
          have hK9 := (keeps_below hb9).same D _ hK rfl
          have HK9 := Lib.hid ((KeepsOthers.setCell w9 ⟨w.heap.size + 1, 0, none⟩ (.bool true)).same D _ hK9 rfl)
          have HB9 := Lib.hid ((HSI.out.keep hb9).belo)
          clear hb9 hc5 hK9
          gi_wp2
          have hK' := HK9.out
          refine ⟨by simp, .inl ⟨_, _, rfl, run_takeDeferred hK', ?_⟩⟩
          have hc5 := cell_kept HC5.out (grownBy_putObj' _ D (.deferred none)) (fun r e => by cases e; exact ⟨_, hK', rfl⟩)
          refine ⟨.bool true, ?_, rfl, (HB9.out.setCell (p := ⟨w.heap.size + 1, 0, none⟩) (by simp) _).trans (belowK_b (w := w) (Nat.le_refl _) _ D _ _ (by omega) hK' rfl rfl)⟩
          simp [results, Try.f5, go_sem, hc5]
        · have hor : (decide (0 ≤ stop) = false) ∨ (0 ≤ stop ∧ decide (stop ≤ (k : Int)) = false) := by
            by_cases e : 0 ≤ stop
            · exact .inr ⟨e, by simp; omega⟩
            · exact .inl (by simp; omega)
          clear hs
          rcases hor with hor | ⟨hor, hor2⟩
          all_goals
            gi_wp2_with fail
            refine ⟨trivial, ?_⟩
            refine (callsIn_wide.2 (awake_true _)).mono ?_
            rintro e w9 ⟨rfl, hb9⟩
            obtain ⟨_, _, _, _, ⟨r9, x4⟩, y4⟩ := (HSI.out.keep hb9).seen
            have hc5 := World.cell?_setCell_same' w9 ⟨w.heap.size + 1, 0, none⟩ (.bool true) (by rw [x4]; rfl)
            have HC5 := Lib.hid hc5
            have hK9 := (keeps_below hb9).same D _ hK rfl
            have HK9 := Lib.hid ((KeepsOthers.setCell w9 ⟨w.heap.size + 1, 0, none⟩ (.bool true)).same D _ hK9 rfl)
            have HB9 := Lib.hid ((HSI.out.keep hb9).belo)
            clear hb9 hc5 hK9
            gi_wp2
            have hK' := HK9.out
            refine ⟨by simp, .inl ⟨_, _, rfl, run_takeDeferred hK', ?_⟩⟩
            have hc5 := cell_kept HC5.out (grownBy_putObj' _ D (.deferred none)) (fun r e => by cases e; exact ⟨_, hK', rfl⟩)
            refine ⟨.bool true, ?_, rfl, (HB9.out.setCell (p := ⟨w.heap.size + 1, 0, none⟩) (by simp) _).trans (belowK_b (w := w) (Nat.le_refl _) _ D _ _ (by omega) hK' rfl rfl)⟩
            simp [results, Try.f5, go_sem, hc5]
      case stop =>
        rintro D c pre W hD hpre ⟨pre0, x, rfl, h | ⟨rfl, hst, hi⟩⟩ hK
        · exfalso
          rw [first_len] at hpre
          exact h.2 (first_next hpre).1
        · rw [first_len] at hpre
          have hlt := (first_next hpre).2
          generalize pre0.length = m at *
          subst hst
          obtain ⟨x8, y8, x5, x3, ⟨r4, x4⟩, y4⟩ := hi.seen
          have HSI := Lib.hid hi
          clear hi hW0 hpre
          have hs1 : (m : Int) ≤ (k : Int) := by omega
          gi_wp2_with fail
          refine ⟨trivial, ?_⟩
          refine (callsIn_wide.2 (awake_true _)).mono ?_
          rintro e w9 ⟨rfl, hb9⟩
          obtain ⟨_, _, _, _, ⟨r9, x4⟩, y4⟩ := (HSI.out.keep hb9).seen
          have hc5 := World.cell?_setCell_same' w9 ⟨w.heap.size + 1, 0, none⟩ (.bool true) (by rw [x4]; rfl)
          have HC5 := Lib.hid hc5
          have hK9 := (keeps_below hb9).same D _ hK rfl
          have HK9 := Lib.hid ((KeepsOthers.setCell w9 ⟨w.heap.size + 1, 0, none⟩ (.bool true)).same D _ hK9 rfl)
          have HB9 := Lib.hid ((HSI.out.keep hb9).belo)
          clear hb9 hc5 hK9
          gi_wp2
          have hK' := HK9.out
          refine ⟨by simp, .inl ⟨_, _, rfl, run_takeDeferred hK', ?_⟩⟩
          have hc5 := cell_kept HC5.out (grownBy_putObj' _ D (.deferred none)) (fun r e => by cases e; exact ⟨_, hK', rfl⟩)
          refine ⟨.bool true, ?_, rfl, (HB9.out.setCell (p := ⟨w.heap.size + 1, 0, none⟩) (by simp) _).trans (belowK_b (w := w) (Nat.le_refl _) _ D _ _ (by omega) hK' rfl rfl)⟩
          simp [results, Try.f5, go_sem, hc5]

theorem stops_law (takes stop : Int) (w : World) :
    Calls Try.prog 5 #[.int .i64 takes, .int .i64 stop] w fun e w' => e = .returned (.bool true) ∧ Below w.heap.size w w' := by
  by_cases hb : takes < 0 ∨ 2000 < takes
  · exact stops_bad takes stop w hb
  · obtain ⟨t, rfl⟩ := Int.eq_ofNat_of_zero_le (show 0 ≤ takes by omega)
    exact stops_good t stop w (by omega)
end Go.Proofs.Ytppoakomeaamhaa
