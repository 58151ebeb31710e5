/- osierlaw03.step, walked: At, Put, Len, Clear, All, and no call. -/
import Derived.Test.YtppoakomeaamhaaSp2
namespace Go.Proofs.Ytppoakomeaamhaa
open Go.RowKit
set_option linter.unusedVariables false

theorem inv_put {most gens : Int} {sl : List Slot} {fr : List Int} {live : Int} (h : AInv most gens sl fr live) {i : Nat} {s : Slot} (hs : sl[i]? = some s) (v : Value) : AInv most gens (sl.set i { s with thing := v }) fr live := by
  have hl := (List.getElem?_eq_some_iff.1 hs).1
  have hnow : (sl.set i { s with thing := v })[i]? = some { s with thing := v } := getElem?_set_self' _ _ _ _ hs
  have hoth : ∀ j, j ≠ i → (sl.set i { s with thing := v })[j]? = sl[j]? := fun j hj => getElem?_set_ne' _ _ _ _ hj
  refine ⟨h.m1, h.m2, h.g1, h.g2, by simpa using h.len, ?_, ?_, h.frn, ?_, ?_⟩
  · intro j s' hj
    by_cases e : j = i
    · subst e
      rw [hnow] at hj
      simp at hj
      subst hj
      exact h.gen j s hs
    · rw [hoth j e] at hj
      exact h.gen j s' hj
  · intro x hx
    obtain ⟨j, s', he, hs', hd, hg⟩ := h.frd x hx
    by_cases e : j = i
    · subst e
      rw [hs] at hs'
      simp at hs'
      subst hs'
      exact ⟨j, _, he, hnow, hd, hg⟩
    · exact ⟨j, s', he, by rw [hoth j e]; exact hs', hd, hg⟩
  · intro j s' hj hd hg
    by_cases e : j = i
    · subst e
      rw [hnow] at hj
      simp at hj
      subst hj
      exact h.all j s hs hd hg
    · rw [hoth j e] at hj
      exact h.all j s' hj hd hg
  · have h1 := h.cnt
    have h2 := List.countP_set (p := fun s : Slot => s.alive) (l := sl) (i := i) (a := { s with thing := v }) hl
    have h3 : sl[i] = s := (List.getElem?_eq_some_iff.1 hs).2
    rw [h3] at h2
    have hpos : s.alive = true → 0 < sl.countP (·.alive) := fun ha => List.countP_pos_iff.2 ⟨s, List.mem_of_getElem? hs, ha⟩
    rw [h2]
    simp only
    cases ha : s.alive with
    | true => have := hpos ha; simp; omega
    | false => simp; omega

theorem oc_thing {all : List One} {k : Nat} {o : One} (h : all[k]? = some o) (v : Int) : (all.set k { o with thing := v }).flatMap oc = (all.flatMap oc).set (k * 5 + 2) (.int .i64 v) := by
  have hl := (List.getElem?_eq_some_iff.1 h).1
  obtain ⟨x0, x1, x2, x3, x4⟩ := oc_at all k o h
  rw [oc_set all k _ hl]
  simp only []
  rw [set_same _ _ _ x0, set_same _ _ _ x1, set_same _ _ _ ((getElem?_set_ne' _ _ _ _ (by omega)).trans x3), set_same _ _ _ ((getElem?_set_ne' _ _ _ _ (by omega)).trans x4)]

theorem nums_giveAll {V : Type} {gens : Int} : ∀ (xs : List (Nat × Int × V)) {S : List Slot × List Int}, Nums S.1 → Nums (giveAll gens (.int .i64 0) S xs).1 := by
  intro xs
  induction xs with
  | nil => intro S h; exact h
  | cons x xs ih => intro S h; exact ih (h.giveA x.1 x.2.1)

set_option maxHeartbeats 8000000 in
set_option maxRecDepth 100000 in
theorem step_at (w : World) (F : Nat → Prop) (W : World) (p d : Nat) (most gens : Int) (sl : List Slot) (fr : List Int) (live : Int) (vs vf : Value) (all : List One) (clock : Int) (va : Value) (h : PMem w F W p d most gens sl fr live vs vf all clock va) (hs : Sim sl fr all clock) (hl : all.length ≤ 300000) (hc : clock ≤ 300000000000) (o1 o2 o3 : Int) :
    Calls Try.prog 22 #[.pointer (some ⟨p, 0, none⟩), .pointer (some ⟨d, 0, none⟩), .agg #[.int .i64 3, .int .i64 o1, .int .i64 o2, .int .i64 o3]] W fun e w' => e = .returned (.bool true) ∧ Stepped w F p d most gens (all.length + 1) (clock + 1048576) w' := by
  have hck := hs.clk
  have hm1 := h.inv.m1
  have hm2 := h.inv.m2
  have H := Lib.hid h
  have HS := Lib.hid hs
  clear h hs
  go_enter Try.func22, Try.ntmps22
  go_wp2_with fail
  have HB := Lib.hid (H.out.keep (balloc (balloc (Below.refl _ _) (.cells #[.int .i64 3, .int .i64 o1, .int .i64 o2, .int .i64 o3] 36)) (.cells #[.int .i64 o1, .int .i64 o2] 40)))
  refine (HB.out.find hl o1 o2).mono ?_
  rintro e w3 ⟨⟨r, rfl, hf⟩, rfl⟩
  have HF := Lib.hid hf
  clear hf
  rcases HS.out.find HF.out with ⟨_, k, i, t, o, rfl, rfl, ht, hta, rfl, ho, hos, hog, hll, hth⟩ | ⟨hn, rfl⟩
  · have HT := Lib.hid ht
    have HO := Lib.hid ho
    have hlk : k < all.length := (List.getElem?_eq_some_iff.1 ho).1
    have HTH := Lib.hid hth
    clear ht ho hth hos hog hll
    go_wp2_with fail
    refine (at_yes _ p most gens sl fr live vs vf HB.out.rep i t HT.out hta t.gen rfl).mono ?_
    rintro e w5 ⟨rfl, hb5⟩
    rw [HTH.out]
    have HP5 := Lib.hid (HB.out.keep hb5)
    obtain ⟨av, capv, rfl, hmv⟩ := own_len HP5.out.drep.all
    obtain ⟨g1, o', rfl, hg1, hcc, ho'⟩ := HP5.out.drep.entry hlk
    have hoo : o' = o := by
      have := HO.out.symm.trans ho'
      simp at this
      exact this.symm
    subst hoo
    obtain ⟨_, _, d2, _, _⟩ := HP5.out.drep.at ho'
    have x2 := HP5.out.drep.blk.cell 2
    simp at x2
    have k1 : ((k : Int) < 0) = False := by simp
    have k2 : decide ((k : Int) < 0) = false := by simp
    clear ho' hb5 k1
    go_wp2_with fail
    go_ret
    exact ⟨rfl, HP5.out.stepped HS.out (by omega) (by omega)⟩
  · have HN := Lib.hid hn
    clear hn
    go_wp2_with fail
    refine (at_no _ p most gens sl fr live vs vf HB.out.rep o1 o2 HN.out).mono ?_
    rintro e w5 ⟨rfl, hb5⟩
    have HP5 := Lib.hid (HB.out.keep hb5)
    clear hb5
    go_wp2_with fail
    go_ret
    exact ⟨rfl, HP5.out.stepped HS.out (by omega) (by omega)⟩

set_option maxHeartbeats 8000000 in
set_option maxRecDepth 100000 in
theorem step_put (w : World) (F : Nat → Prop) (W : World) (p d : Nat) (most gens : Int) (sl : List Slot) (fr : List Int) (live : Int) (vs vf : Value) (all : List One) (clock : Int) (va : Value) (h : PMem w F W p d most gens sl fr live vs vf all clock va) (hs : Sim sl fr all clock) (hl : all.length ≤ 300000) (hc : clock ≤ 300000000000) (o1 o2 o3 : Int) :
    Calls Try.prog 22 #[.pointer (some ⟨p, 0, none⟩), .pointer (some ⟨d, 0, none⟩), .agg #[.int .i64 4, .int .i64 o1, .int .i64 o2, .int .i64 o3]] W fun e w' => e = .returned (.bool true) ∧ Stepped w F p d most gens (all.length + 1) (clock + 1048576) w' := by
  have hck := hs.clk
  have hm1 := h.inv.m1
  have hm2 := h.inv.m2
  have H := Lib.hid h
  have HS := Lib.hid hs
  clear h hs
  go_enter Try.func22, Try.ntmps22
  go_wp2_with fail
  have HB := Lib.hid (H.out.keep (balloc (balloc (Below.refl _ _) (.cells #[.int .i64 4, .int .i64 o1, .int .i64 o2, .int .i64 o3] 36)) (.cells #[.int .i64 o1, .int .i64 o2] 40)))
  refine (HB.out.find hl o1 o2).mono ?_
  rintro e w3 ⟨⟨r, rfl, hf⟩, rfl⟩
  have HF := Lib.hid hf
  clear hf
  rcases HS.out.find HF.out with ⟨_, k, i, t, o, rfl, rfl, ht, hta, rfl, ho, hos, hog, hll, hth⟩ | ⟨hn, rfl⟩
  · have HT := Lib.hid ht
    have HO := Lib.hid ho
    have hlk : k < all.length := (List.getElem?_eq_some_iff.1 ho).1
    have HSM := Lib.hid (HS.out.put ht ho hos hll o3)
    have k2 : decide ((k : Int) < 0) = false := by simp
    clear ht ho hth hos hog hll
    go_wp2_with fail
    refine (put_yes _ p most gens sl fr live vs vf HB.out.rep i t HT.out hta t.gen o3 rfl).mono ?_
    rintro e w5 ⟨rfl, hnow⟩
    have hnf : ∀ k, foot p vs vf k → k ≠ W.heap.size := fun k hf e => by have := H.out.rep.footlt hf; omega
    have c0 := hnow.mod.cell (p := ⟨W.heap.size, 3, none⟩) (by simp; omega) (fun f => hnf _ f rfl)
    simp at c0
    have hz5 := hnow.mod.size
    simp at hz5
    have hz : W.heap.size < w5.heap.size := by omega
    have hp5 := HB.out.ofA hnow (inv_put HB.out.inv HT.out _) (HB.out.num.set _ _ ⟨o3, rfl⟩)
    have HP5 := Lib.hid hp5
    obtain ⟨av, capv, rfl, hmv⟩ := own_len hp5.drep.all
    obtain ⟨g1, o', rfl, hg1, hcc, ho'⟩ := hp5.drep.entry hlk
    have x2 := hp5.drep.blk.cell 2
    simp at x2
    obtain ⟨_, _, d2, _, _⟩ := hp5.drep.at ho'
    have f2 := hp5.drep.all.frozenAt (k * 5 + 2)
    have HX := Lib.hid (hp5.drep.setOne (k * 5 + 2) (.int .i64 o3) (all' := all.set k { o with thing := o3 }) (by simp) (oc_thing HO.out o3))
    clear hnow hp5 ho' hnf
    go_wp2_with fail
    go_region
    all_goals
      go_wp2_with fail
      go_ret
      have hdn : DNow w5 ((w5.setCell ⟨g1, k * 5 + 2, none⟩ (.int .i64 o3)).drew) d most gens (all.set k { o with thing := o3 }) clock (.slice (some ⟨g1, 0, none⟩) all.length capv) (.slice (some ⟨g1, 0, none⟩) all.length capv) :=
        ⟨HX.out.keep (bdrew (Below.refl _ _)), ((Mod.refl (dfoot d (.slice (some ⟨g1, 0, none⟩) all.length capv)) w5).setCell (p := ⟨g1, k * 5 + 2, none⟩) (fun _ => .inr rfl) (.int .i64 o3)).drew, fun k hk _ => hk⟩
      exact ⟨rfl, (HP5.out.ofD hdn).stepped HSM.out (by simp) (by omega)⟩
  · have HN := Lib.hid hn
    clear hn
    go_wp2_with fail
    refine (put_no _ p most gens sl fr live vs vf HB.out.rep o1 o2 o3 HN.out).mono ?_
    rintro e w5 ⟨rfl, hb5⟩
    have HP5 := Lib.hid (HB.out.keep hb5)
    clear hb5
    go_wp2_with fail
    go_ret
    exact ⟨rfl, HP5.out.stepped HS.out (by omega) (by omega)⟩

set_option maxHeartbeats 8000000 in
set_option maxRecDepth 100000 in
theorem step_len (w : World) (F : Nat → Prop) (W : World) (p d : Nat) (most gens : Int) (sl : List Slot) (fr : List Int) (live : Int) (vs vf : Value) (all : List One) (clock : Int) (va : Value) (h : PMem w F W p d most gens sl fr live vs vf all clock va) (hs : Sim sl fr all clock) (hl : all.length ≤ 300000) (hc : clock ≤ 300000000000) (o1 o2 o3 : Int) :
    Calls Try.prog 22 #[.pointer (some ⟨p, 0, none⟩), .pointer (some ⟨d, 0, none⟩), .agg #[.int .i64 5, .int .i64 o1, .int .i64 o2, .int .i64 o3]] W fun e w' => e = .returned (.bool true) ∧ Stepped w F p d most gens (all.length + 1) (clock + 1048576) w' := by
  have hck := hs.clk
  have hm1 := h.inv.m1
  have hm2 := h.inv.m2
  have H := Lib.hid h
  have HS := Lib.hid hs
  clear h hs
  go_enter Try.func22, Try.ntmps22
  go_wp2_with fail
  have HB := Lib.hid (H.out.keep (balloc (balloc (Below.refl _ _) (.cells #[.int .i64 5, .int .i64 o1, .int .i64 o2, .int .i64 o3] 36)) (.cells #[.int .i64 o1, .int .i64 o2] 40)))
  refine (HB.out.find hl o1 o2).mono ?_
  rintro e w3 ⟨⟨r, rfl, hf⟩, rfl⟩
  have HF := Lib.hid hf
  clear hf
  have hcnt := H.out.inv.count
  have hln := H.out.inv.len
  have ha := HS.out.aliveCount H.out.inv
  have hr := HS.out.roomEq H.out.inv
  have HAC := Lib.hid ha
  have HRC := Lib.hid hr
  clear ha hr
  go_wp2_with fail
  refine (len_any _ p most gens sl fr live vs vf HB.out.rep).mono ?_
  rintro e w5 ⟨rfl, rfl⟩
  go_wp2_with fail
  refine (len_ref _ d most gens clock all va HB.out.drep (by omega)).mono ?_
  rintro e w6 ⟨rfl, rfl⟩
  rw [HAC.out]
  have k1 : (live == live) = true := by simp
  go_wp2_with fail
  refine (room_any _ p most gens sl fr live vs vf HB.out.rep (by omega) (by omega) (by omega) (by omega)).mono ?_
  rintro e w7 ⟨rfl, hb7⟩
  have HP7 := Lib.hid (HB.out.keep hb7)
  clear hb7
  go_wp2_with fail
  refine (room_ref _ d most gens clock all va HP7.out.drep (by omega) (HS.out.small H.out.inv (by omega)) (by omega) (by omega)).mono ?_
  rintro e w8 ⟨rfl, hb8⟩
  rw [HRC.out]
  generalize most - (sl.length : Int) + (fr.length : Int) = rm
  have k2 : (rm == rm) = true := by simp
  have HP8 := Lib.hid (HP7.out.keep hb8)
  clear hb8
  go_wp2_with fail
  go_ret
  exact ⟨rfl, HP8.out.stepped HS.out (by omega) (by omega)⟩

set_option maxHeartbeats 8000000 in
set_option maxRecDepth 100000 in
theorem step_clear (w : World) (F : Nat → Prop) (W : World) (p d : Nat) (most gens : Int) (sl : List Slot) (fr : List Int) (live : Int) (vs vf : Value) (all : List One) (clock : Int) (va : Value) (h : PMem w F W p d most gens sl fr live vs vf all clock va) (hs : Sim sl fr all clock) (hl : all.length ≤ 300000) (hc : clock ≤ 300000000000) (o1 o2 o3 : Int) :
    Calls Try.prog 22 #[.pointer (some ⟨p, 0, none⟩), .pointer (some ⟨d, 0, none⟩), .agg #[.int .i64 6, .int .i64 o1, .int .i64 o2, .int .i64 o3]] W fun e w' => e = .returned (.bool true) ∧ Stepped w F p d most gens (all.length + 1) (clock + 1048576) w' := by
  have hck := hs.clk
  have hm1 := h.inv.m1
  have hm2 := h.inv.m2
  have H := Lib.hid h
  have HS := Lib.hid hs
  clear h hs
  go_enter Try.func22, Try.ntmps22
  go_wp2_with fail
  have HB := Lib.hid (H.out.keep (balloc (balloc (Below.refl _ _) (.cells #[.int .i64 6, .int .i64 o1, .int .i64 o2, .int .i64 o3] 36)) (.cells #[.int .i64 o1, .int .i64 o2] 40)))
  refine (HB.out.find hl o1 o2).mono ?_
  rintro e w3 ⟨⟨r, rfl, hf⟩, rfl⟩
  have HF := Lib.hid hf
  clear hf
  go_wp2_with fail
  refine (clear_any _ p most gens sl fr live vs vf HB.out.rep HB.out.inv HB.out.num).mono ?_
  rintro e w5 ⟨rfl, vf', hnow, hinv'⟩
  have HP5 := Lib.hid (HB.out.ofA hnow hinv' (nums_giveAll _ HB.out.num))
  clear hnow hinv'
  go_wp2_with fail
  refine (clear_ref _ d most gens clock all va HP5.out.drep (by omega) hck (by omega)).mono ?_
  rintro e w6 ⟨rfl, x, R, hlr, hgv, hdn⟩
  have hte := HS.out.toldEq H.out.num hlr
  have hlen := hgv.len
  have hxl : x.length ≤ 1048576 := by
    have h1 := congrArg List.length hte
    simp only [List.length_map] at h1
    have h2 := told_len numV sl sl.length
    have h3 := H.out.inv.len
    omega
  have hi2 := H.out.inv
  have hlv := hi2.live_eq
  rw [hlv] at hi2
  have hjoin := HS.out.givesR (S0 := (sl, fr)) (R0 := (all, clock)) hi2 (.int .i64 0) hgv _ hte
  have HJ := Lib.hid hjoin.1
  have HP6 := Lib.hid (HP5.out.ofD hdn)
  have hR1 : R.1.length ≤ all.length + 1 := by have := hlen.1; simp at this; omega
  have hR2 : R.2 ≤ clock + 1048576 := by have := hlen.2.2; simp at this; omega
  clear hte hlen hxl hi2 hlv hjoin hdn hgv hlr
  go_wp2_with fail
  go_ret
  exact ⟨rfl, HP6.out.stepped HJ.out hR1 hR2⟩

set_option maxHeartbeats 8000000 in
set_option maxRecDepth 100000 in
theorem step_all (w : World) (F : Nat → Prop) (W : World) (p d : Nat) (most gens : Int) (sl : List Slot) (fr : List Int) (live : Int) (vs vf : Value) (all : List One) (clock : Int) (va : Value) (h : PMem w F W p d most gens sl fr live vs vf all clock va) (hs : Sim sl fr all clock) (hl : all.length ≤ 300000) (hc : clock ≤ 300000000000) (o1 o2 o3 : Int) :
    Calls Try.prog 22 #[.pointer (some ⟨p, 0, none⟩), .pointer (some ⟨d, 0, none⟩), .agg #[.int .i64 7, .int .i64 o1, .int .i64 o2, .int .i64 o3]] W fun e w' => e = .returned (.bool true) ∧ Stepped w F p d most gens (all.length + 1) (clock + 1048576) w' := by
  have hck := hs.clk
  have hm1 := h.inv.m1
  have hm2 := h.inv.m2
  have H := Lib.hid h
  have HS := Lib.hid hs
  clear h hs
  go_enter Try.func22, Try.ntmps22
  go_wp2_with fail
  have HB := Lib.hid (H.out.keep (balloc (balloc (Below.refl _ _) (.cells #[.int .i64 7, .int .i64 o1, .int .i64 o2, .int .i64 o3] 36)) (.cells #[.int .i64 o1, .int .i64 o2] 40)))
  refine (HB.out.find hl o1 o2).mono ?_
  rintro e w3 ⟨⟨r, rfl, hf⟩, rfl⟩
  have HF := Lib.hid hf
  clear hf
  go_wp2_with fail
  refine (walks_any _ p d most gens clock most gens sl fr live vs vf va all HB.out.rep HB.out.inv HB.out.num HB.out.drep HS.out (by omega)).mono ?_
  rintro e w5 ⟨rfl, hb5⟩
  have HP5 := Lib.hid (HB.out.keep hb5)
  clear hb5
  go_wp2_with fail
  go_ret
  exact ⟨rfl, HP5.out.stepped HS.out (by omega) (by omega)⟩

set_option maxHeartbeats 8000000 in
set_option maxRecDepth 100000 in
theorem step_other (w : World) (F : Nat → Prop) (W : World) (p d : Nat) (most gens : Int) (sl : List Slot) (fr : List Int) (live : Int) (vs vf : Value) (all : List One) (clock : Int) (va : Value) (h : PMem w F W p d most gens sl fr live vs vf all clock va) (hs : Sim sl fr all clock) (hl : all.length ≤ 300000) (hc : clock ≤ 300000000000) (o0 o1 o2 o3 : Int) (ho : o0 ≠ 1 ∧ o0 ≠ 2 ∧ o0 ≠ 3 ∧ o0 ≠ 4 ∧ o0 ≠ 5 ∧ o0 ≠ 6 ∧ o0 ≠ 7) :
    Calls Try.prog 22 #[.pointer (some ⟨p, 0, none⟩), .pointer (some ⟨d, 0, none⟩), .agg #[.int .i64 o0, .int .i64 o1, .int .i64 o2, .int .i64 o3]] W fun e w' => e = .returned (.bool true) ∧ Stepped w F p d most gens (all.length + 1) (clock + 1048576) w' := by
  have hck := hs.clk
  have hm1 := h.inv.m1
  have hm2 := h.inv.m2
  have H := Lib.hid h
  have HS := Lib.hid hs
  clear h hs
  have j1 : (o0 == 1) = false := beq_eq_false_iff_ne.2 ho.1
  have j2 : (o0 == 2) = false := beq_eq_false_iff_ne.2 ho.2.1
  have j3 : (o0 == 3) = false := beq_eq_false_iff_ne.2 ho.2.2.1
  have j4 : (o0 == 4) = false := beq_eq_false_iff_ne.2 ho.2.2.2.1
  have j5 : (o0 == 5) = false := beq_eq_false_iff_ne.2 ho.2.2.2.2.1
  have j6 : (o0 == 6) = false := beq_eq_false_iff_ne.2 ho.2.2.2.2.2.1
  have j7 : (o0 == 7) = false := beq_eq_false_iff_ne.2 ho.2.2.2.2.2.2
  clear ho
  go_enter Try.func22, Try.ntmps22
  go_wp2_with fail
  have HB := Lib.hid (H.out.keep (balloc (balloc (Below.refl _ _) (.cells #[.int .i64 o0, .int .i64 o1, .int .i64 o2, .int .i64 o3] 36)) (.cells #[.int .i64 o1, .int .i64 o2] 40)))
  refine (HB.out.find hl o1 o2).mono ?_
  rintro e w3 ⟨⟨r, rfl, hf⟩, rfl⟩
  have HF := Lib.hid hf
  clear hf
  go_wp2_with fail
  go_ret
  exact ⟨rfl, HB.out.stepped HS.out (by omega) (by omega)⟩

theorem step_any (w : World) (F : Nat → Prop) (W : World) (p d : Nat) (most gens : Int) (n : Nat) (c : Int) (h : Stepped w F p d most gens n c W) (hn : n ≤ 300000) (hc : c ≤ 300000000000) (o0 o1 o2 o3 : Int) :
    Calls Try.prog 22 #[.pointer (some ⟨p, 0, none⟩), .pointer (some ⟨d, 0, none⟩), .agg #[.int .i64 o0, .int .i64 o1, .int .i64 o2, .int .i64 o3]] W fun e w' => e = .returned (.bool true) ∧ Stepped w F p d most gens (n + 1) (c + 1048576) w' := by
  obtain ⟨sl, fr, vs, vf, all, clock, va, h1, h2, h3, h4⟩ := h
  have hw : ∀ (e : Ending) (w' : World), (e = .returned (.bool true) ∧ Stepped w F p d most gens (all.length + 1) (clock + 1048576) w') → (e = .returned (.bool true) ∧ Stepped w F p d most gens (n + 1) (c + 1048576) w') := fun e w' ⟨a, b⟩ => ⟨a, b.weaken (by omega) (by omega)⟩
  by_cases e1 : o0 = 1
  · subst e1; exact (step_take w F W p d most gens sl fr _ vs vf all clock va h1 h2 (by omega) (by omega) o1 o2 o3).mono hw
  by_cases e2 : o0 = 2
  · subst e2; exact (step_give w F W p d most gens sl fr _ vs vf all clock va h1 h2 (by omega) (by omega) o1 o2 o3).mono hw
  by_cases e3 : o0 = 3
  · subst e3; exact (step_at w F W p d most gens sl fr _ vs vf all clock va h1 h2 (by omega) (by omega) o1 o2 o3).mono hw
  by_cases e4 : o0 = 4
  · subst e4; exact (step_put w F W p d most gens sl fr _ vs vf all clock va h1 h2 (by omega) (by omega) o1 o2 o3).mono hw
  by_cases e5 : o0 = 5
  · subst e5; exact (step_len w F W p d most gens sl fr _ vs vf all clock va h1 h2 (by omega) (by omega) o1 o2 o3).mono hw
  by_cases e6 : o0 = 6
  · subst e6; exact (step_clear w F W p d most gens sl fr _ vs vf all clock va h1 h2 (by omega) (by omega) o1 o2 o3).mono hw
  by_cases e7 : o0 = 7
  · subst e7; exact (step_all w F W p d most gens sl fr _ vs vf all clock va h1 h2 (by omega) (by omega) o1 o2 o3).mono hw
  exact (step_other w F W p d most gens sl fr _ vs vf all clock va h1 h2 (by omega) (by omega) o0 o1 o2 o3 ⟨e1, e2, e3, e4, e5, e6, e7⟩).mono hw
end Go.Proofs.Ytppoakomeaamhaa
