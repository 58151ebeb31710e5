/- osierlaw03.twin, walked: At, Clear, the rest. -/
import Derived.Test.YtppoakomeaamhaaTm1
namespace Go.Proofs.Ytppoakomeaamhaa
open Go.RowKit
set_option linter.unusedVariables false

theorem TMem.find {w : World} {F : Nat → Prop} {W : World} {p d : Nat} {most gens : Int} {sl : List Slot} {fr : List Int} {live : Int} {vs vf : Value} {all : List One} {clock : Int} {va : Value} (h : TMem w F W p d most gens sl fr live vs vf all clock va) (hl : all.length ≤ 300000) (s g : Int) :
    Calls Try.prog 30 #[.pointer (some ⟨d, 0, none⟩), .int .i64 s, .int .i64 g] W fun e w' => (∃ r, e = .returned (.int .i64 r) ∧ IsFind all s g r) ∧ w' = W :=
  find_ref W d most gens clock all va h.drep (by omega) s g

set_option maxHeartbeats 8000000 in
set_option maxRecDepth 100000 in
theorem twin_at (w : World) (F : Nat → Prop) (W : World) (p d : Nat) (most gens : Int) (sl : List Slot) (fr : List Int) (live : Int) (vs vf : Value) (all : List One) (clock : Int) (va : Value) (h : TMem w F W p d most gens sl fr live vs vf all clock va) (hs : Sim sl fr all clock) (hl : all.length ≤ 300000) (hc : clock ≤ 300000000000) (o1 o2 o3 : Int) :
    Calls Try.prog 26 #[.pointer (some ⟨p, 0, none⟩), .pointer (some ⟨d, 0, none⟩), .agg #[.int .i64 3, .int .i64 o1, .int .i64 o2, .int .i64 o3]] W fun e w' => e = .returned (.bool true) ∧ TStepped w F p d most gens (all.length + 1) (clock + 1048576) w' := by
  have hck := hs.clk
  have hm1 := h.inv.m1
  have hm2 := h.inv.m2
  have H := Lib.hid h
  have HS := Lib.hid hs
  clear h hs
  go_enter Try.func26, Try.ntmps26
  go_wp2_with fail
  have HB := Lib.hid (H.out.keep (balloc (balloc (Below.refl _ _) (.cells #[.int .i64 3, .int .i64 o1, .int .i64 o2, .int .i64 o3] 36)) (.cells #[.int .i64 o1, .int .i64 o2] 40)))
  by_cases hh : hit sl o1 o2
  · obtain ⟨i, t, rfl, ht, hta, rfl⟩ := hh
    obtain ⟨z, hz, hz0, hz1⟩ := H.out.num i t ht
    have hts : (toS t).thing = .string (strOf z) := by unfold toS; rw [hta, hz]; rfl
    have HTS := Lib.hid hts
    have HZ := Lib.hid hz
    have HT := Lib.hid ht
    clear hts hz ht
    refine (Str.at_yes _ p most gens (sl.map toS) fr live vs vf HB.out.rep i (toS t) (toS_at HT.out) hta t.gen rfl).mono ?_
    rintro e w4 ⟨rfl, hb4⟩
    rw [HTS.out]
    have HP4 := Lib.hid (HB.out.keep hb4)
    have c1 := hb4.cell (p := ⟨W.heap.size, 1, none⟩) (by simp; omega)
    have c2 := hb4.cell (p := ⟨W.heap.size, 2, none⟩) (by simp; omega)
    simp at c1 c2
    have hz4 := hb4.size
    simp at hz4
    have hzW : W.heap.size + 1 < w4.heap.size := by omega
    clear hb4 hz4
    generalize hso : strOf z = S
    have HSO := Lib.hid hso
    clear hso
    go_wp2_with fail
    refine (HP4.out.find hl (i : Int) t.gen).mono ?_
    rintro e w3 ⟨⟨r, rfl, hf⟩, rfl⟩
    have HF := Lib.hid hf
    clear hf
    rcases HS.out.find HF.out with ⟨_, k, i', t', o, rfl, hii, ht', hta', htg, ho, hos, hog, hll, hth⟩ | ⟨hn, rfl⟩
    · obtain rfl : i = i' := by omega
      have htt : t' = t := by
        have := HT.out.symm.trans ht'
        simp at this
        exact this.symm
      subst htt
      have hzo : o.thing = z := by
        rw [HZ.out] at hth
        simp at hth
        exact hth.symm
      have HO := Lib.hid ho
      have hlk : k < all.length := (List.getElem?_eq_some_iff.1 ho).1
      clear ho hos hog hll hth ht' hta' htg
      obtain ⟨av, capv, rfl, hmv⟩ := own_len HP4.out.drep.all
      obtain ⟨g1, o', rfl, hg1, hcc, ho'⟩ := HP4.out.drep.entry hlk
      have hoo : o' = o := by
        have := HO.out.symm.trans ho'
        simp at this
        exact this.symm
      subst hoo
      obtain ⟨_, _, d2, _, _⟩ := HP4.out.drep.at ho'
      have x2 := HP4.out.drep.blk.cell 2
      simp at x2
      rw [hzo] at d2
      have k2 : decide ((0 : Int) ≤ (k : Int)) = true := by simp
      clear ho'
      go_wp2_with fail
      have hnum := number_at z hz0 hz1 w3
      rw [HSO.out] at hnum
      refine hnum.mono ?_
      rintro e w6 ⟨rfl, hb6⟩
      have HP6 := Lib.hid (HP4.out.keep hb6)
      clear hb6 hnum
      go_wp2_with fail
      go_ret
      exact ⟨by simp, HP6.out.stepped HS.out (by omega) (by omega)⟩
    · exact absurd ⟨i, t, rfl, HT.out, hta, rfl⟩ hn
  · have HN := Lib.hid hh
    clear hh
    refine (Str.at_no _ p most gens (sl.map toS) fr live vs vf HB.out.rep o1 o2 (fun hx => HN.out (hit_toS.1 hx))).mono ?_
    rintro e w4 ⟨rfl, hb4⟩
    have HP4 := Lib.hid (HB.out.keep hb4)
    have c1 := hb4.cell (p := ⟨W.heap.size, 1, none⟩) (by simp; omega)
    have c2 := hb4.cell (p := ⟨W.heap.size, 2, none⟩) (by simp; omega)
    simp at c1 c2
    have hz4 := hb4.size
    simp at hz4
    have hzW : W.heap.size + 1 < w4.heap.size := by omega
    clear hb4 hz4
    go_wp2_with fail
    refine (HP4.out.find hl o1 o2).mono ?_
    rintro e w3 ⟨⟨r, rfl, hf⟩, rfl⟩
    have HF := Lib.hid hf
    clear hf
    rcases HS.out.find HF.out with ⟨hx, _⟩ | ⟨_, rfl⟩
    · exact absurd hx HN.out
    · go_wp2_with fail
      go_ret
      exact ⟨by simp, HP4.out.stepped HS.out (by omega) (by omega)⟩

set_option maxHeartbeats 8000000 in
set_option maxRecDepth 100000 in
theorem twin_clear (w : World) (F : Nat → Prop) (W : World) (p d : Nat) (most gens : Int) (sl : List Slot) (fr : List Int) (live : Int) (vs vf : Value) (all : List One) (clock : Int) (va : Value) (h : TMem w F W p d most gens sl fr live vs vf all clock va) (hs : Sim sl fr all clock) (hl : all.length ≤ 300000) (hc : clock ≤ 300000000000) (o1 o2 o3 : Int) :
    Calls Try.prog 26 #[.pointer (some ⟨p, 0, none⟩), .pointer (some ⟨d, 0, none⟩), .agg #[.int .i64 6, .int .i64 o1, .int .i64 o2, .int .i64 o3]] W fun e w' => e = .returned (.bool true) ∧ TStepped w F p d most gens (all.length + 1) (clock + 1048576) w' := by
  have hck := hs.clk
  have hm1 := h.inv.m1
  have hm2 := h.inv.m2
  have H := Lib.hid h
  have HS := Lib.hid hs
  clear h hs
  go_enter Try.func26, Try.ntmps26
  go_wp2_with fail
  have HB := Lib.hid (H.out.keep (balloc (balloc (Below.refl _ _) (.cells #[.int .i64 6, .int .i64 o1, .int .i64 o2, .int .i64 o3] 36)) (.cells #[.int .i64 o1, .int .i64 o2] 40)))
  refine (clear_tm w F _ p d most gens sl fr live vs vf all clock va HB.out).mono ?_
  rintro e w5 ⟨rfl, vf', htm⟩
  have HP5 := Lib.hid htm
  clear htm
  go_wp2_with fail
  refine (clear_ref _ d most gens clock all va HP5.out.drep (by omega) hck (by omega)).mono ?_
  rintro e w6 ⟨rfl, x, R, hlr, hgv, hdn⟩
  have hte := HS.out.toldEq H.out.num.nums hlr
  have hlen := hgv.len
  have hxl : x.length ≤ 1048576 := by
    have h1 := congrArg List.length hte
    simp only [List.length_map] at h1
    have h2 := told_len numV sl sl.length
    have h3 := H.out.inv.len
    omega
  have hi2 := H.out.inv
  have hlv := hi2.live_eq
  rw [hlv] at hi2
  have hjoin := HS.out.givesR (S0 := (sl, fr)) (R0 := (all, clock)) hi2 (.int .i64 0) hgv _ hte
  have HJ := Lib.hid hjoin.1
  have HP6 := Lib.hid (HP5.out.ofD hdn)
  have hR1 : R.1.length ≤ all.length + 1 := by have := hlen.1; simp at this; omega
  have hR2 : R.2 ≤ clock + 1048576 := by have := hlen.2.2; simp at this; omega
  clear hte hlen hxl hi2 hlv hjoin hdn hgv hlr
  go_wp2_with fail
  go_ret
  exact ⟨rfl, HP6.out.stepped HJ.out hR1 hR2⟩

set_option maxHeartbeats 8000000 in
set_option maxRecDepth 100000 in
theorem twin_other (w : World) (F : Nat → Prop) (W : World) (p d : Nat) (most gens : Int) (sl : List Slot) (fr : List Int) (live : Int) (vs vf : Value) (all : List One) (clock : Int) (va : Value) (h : TMem w F W p d most gens sl fr live vs vf all clock va) (hs : Sim sl fr all clock) (hl : all.length ≤ 300000) (hc : clock ≤ 300000000000) (o0 o1 o2 o3 : Int) (ho : o0 ≠ 1 ∧ o0 ≠ 2 ∧ o0 ≠ 3 ∧ o0 ≠ 6) :
    Calls Try.prog 26 #[.pointer (some ⟨p, 0, none⟩), .pointer (some ⟨d, 0, none⟩), .agg #[.int .i64 o0, .int .i64 o1, .int .i64 o2, .int .i64 o3]] W fun e w' => e = .returned (.bool true) ∧ TStepped w F p d most gens (all.length + 1) (clock + 1048576) w' := by
  have hck := hs.clk
  have hm1 := h.inv.m1
  have hm2 := h.inv.m2
  have H := Lib.hid h
  have HS := Lib.hid hs
  clear h hs
  have j1 : (o0 == 1) = false := beq_eq_false_iff_ne.2 ho.1
  have j2 : (o0 == 2) = false := beq_eq_false_iff_ne.2 ho.2.1
  have j3 : (o0 == 3) = false := beq_eq_false_iff_ne.2 ho.2.2.1
  have j6 : (o0 == 6) = false := beq_eq_false_iff_ne.2 ho.2.2.2
  clear ho
  go_enter Try.func26, Try.ntmps26
  go_wp2_with fail
  have HB := Lib.hid (H.out.keep (balloc (balloc (Below.refl _ _) (.cells #[.int .i64 o0, .int .i64 o1, .int .i64 o2, .int .i64 o3] 36)) (.cells #[.int .i64 o1, .int .i64 o2] 40)))
  go_ret
  exact ⟨rfl, HB.out.stepped HS.out (by omega) (by omega)⟩
end Go.Proofs.Ytppoakomeaamhaa
