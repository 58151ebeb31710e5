/- osierlaw03.step, walked: Give. -/
import Derived.Test.YtppoakomeaamhaaSp1
import Derived.Deep.RegionHeld3
namespace Go.Proofs.Ytppoakomeaamhaa
open Go.RowKit
set_option linter.unusedVariables false

/-- Give of the arena, with what it leaves alone. -/
theorem give_pmM (w : World) (F : Nat → Prop) (W : World) (p d : Nat) (most gens : Int) (sl : List Slot) (fr : List Int) (live : Int) (vs vf : Value) (all : List One) (clock : Int) (va : Value) (h : PMem w F W p d most gens sl fr live vs vf all clock va) (s g : Int) :
    Calls Try.prog 15 #[.pointer (some ⟨p, 0, none⟩), .agg #[.int .i64 s, .int .i64 g]] W fun e w' => ∃ (r : Int) (sl' : List Slot) (fr' : List Int) (vf' : Value), e = .returned (.int .i64 r) ∧
      Hid ((hit sl s g ∧ r = 0 ∧ ∃ i : Nat, s = i ∧ (sl', fr') = giveA gens (.int .i64 0) (sl, fr) i g) ∨ (¬ hit sl s g ∧ r = 32 ∧ (sl', fr') = (sl, fr))) ∧ PMem w F w' p d most gens sl' fr' (liveN sl') vs vf' all clock va ∧ Mod (foot p vs vf) W w' := by
  have hlv := h.eqLive
  by_cases hh : hit sl s g
  · have hh' := hh
    obtain ⟨i, t, rfl, ht, ha, rfl⟩ := hh
    refine (give_any W p most gens sl fr live vs vf h.rep h.inv i t ht ha t.gen rfl).mono ?_
    rintro e w' ⟨fr', vf', rfl, hn, hi', rfl⟩
    have hl' := hi'.live_eq
    rw [hl'] at hn hi'
    exact ⟨0, _, _, vf', rfl, .inl ⟨hh', rfl, i, rfl, (giveA_hit ht ha).symm⟩, h.ofA hn hi' (h.num.set _ _ ⟨0, rfl⟩), hn.mod⟩
  · refine (give_no W p most gens sl fr live vs vf h.rep s g hh).mono ?_
    rintro e w' ⟨rfl, hb⟩
    exact ⟨32, sl, fr, vf, rfl, .inr ⟨hh, rfl, rfl⟩, by rw [← hlv]; exact h.keep hb, Mod.ofBelow hb⟩
theorem giver_pmM (w : World) (F : Nat → Prop) (W : World) (p d : Nat) (most gens : Int) (sl : List Slot) (fr : List Int) (live : Int) (vs vf : Value) (all : List One) (clock : Int) (va : Value) (h : PMem w F W p d most gens sl fr live vs vf all clock va) (hl : all.length ≤ 300000) (hc0 : 0 ≤ clock) (hc : clock ≤ 300000000000) (s g : Int) :
    Calls Try.prog 32 #[.pointer (some ⟨d, 0, none⟩), .int .i64 s, .int .i64 g] W fun e w' => ∃ (r : Int) (all' : List One) (clock' : Int), e = .returned (.int .i64 r) ∧
      Hid ((r = 32 ∨ r = 0) ∧ (r = 32 ↔ ∀ (j : Nat) (o : One), all[j]? = some o → ¬ isRef o s g) ∧ GiveR (all, clock) s g (all', clock')) ∧ PMem w F w' p d most gens sl fr live vs vf all' clock' va ∧ Mod (dfoot d va) W w' := by
  refine (give_refR W d most gens (all, clock) va h.drep (by simp; omega) hc0 (by simp; omega) s g).mono ?_
  rintro e w' ⟨r, ⟨all', clock'⟩, rfl, h1, h2, h3, h4⟩
  exact ⟨r, all', clock', rfl, ⟨h1, h2, h3⟩, h.ofD h4, h4.mod⟩

/-- Both gave the same answer and hold the same. -/
theorem give_join {sl sl' : List Slot} {fr fr' : List Int} {all all' : List One} {clock clock' most gens live s g r r' : Int} (hs : Sim sl fr all clock) (hi : AInv most gens sl fr live)
    (h1 : (hit sl s g ∧ r = 0 ∧ ∃ i : Nat, s = i ∧ (sl', fr') = giveA gens (.int .i64 0) (sl, fr) i g) ∨ (¬ hit sl s g ∧ r = 32 ∧ (sl', fr') = (sl, fr)))
    (h2 : (r' = 32 ∨ r' = 0) ∧ (r' = 32 ↔ ∀ (j : Nat) (o : One), all[j]? = some o → ¬ isRef o s g) ∧ GiveR (all, clock) s g (all', clock')) :
    r = r' ∧ Sim sl' fr' all' clock' ∧ all'.length ≤ all.length + 1 ∧ clock' ≤ clock + 1048576 := by
  obtain ⟨h3, h4, h5⟩ := h2
  have hlen := h5.len
  simp only at hlen
  have hi2 := hi
  have hlv := hi.live_eq
  rw [hlv] at hi2
  obtain ⟨q, hf, _⟩ := id h5
  rcases h1 with ⟨hh, rfl, i, rfl, he⟩ | ⟨hn, rfl, he⟩
  · have hsim := hs.giveR (S := (sl, fr)) (R := (all, clock)) hi2 h5 (.int .i64 0)
    rw [← he] at hsim
    refine ⟨?_, hsim, by omega, by omega⟩
    rcases hs.find hf with ⟨_, k, j, t, o, _, e2, _, _, _, e6, e7, e8, _⟩ | ⟨hn, _⟩
    · rcases h3 with h3 | h3
      · exfalso
        obtain ⟨m, t', f1, f2, f3, f4⟩ := hh
        obtain ⟨k', o', g1, g2, g3, g4, g5, _⟩ := hs.las m t' f2
        exact (h4.1 h3) k' o' g2 ⟨by rw [g5]; exact f3, by omega, by rw [g4]; exact f4⟩
      · exact h3.symm
    · exact absurd hh hn
  · rcases hs.find hf with ⟨hh, _⟩ | ⟨_, hq⟩
    · exact absurd hh hn
    · have hno : ∀ (j : Nat) (o : One), all[j]? = some o → ¬ isRef o s g := by
        rcases hf with ⟨_, hx⟩ | ⟨k, o, hk, _⟩
        · exact hx
        · omega
      have hr := h4.2 hno
      have hsame : (all', clock') = (all, clock) := by
        obtain ⟨q', hf', ⟨_, e⟩ | ⟨k, o, e1, e2, _⟩⟩ := h5
        · exact e
        · exfalso
          rcases hf' with ⟨e3, _⟩ | ⟨k', o', e3, e4, e5, _⟩
          · omega
          · exact hno k' o' e4 e5
      simp only [Prod.mk.injEq] at hsame he
      obtain ⟨rfl, rfl⟩ := hsame
      obtain ⟨rfl, rfl⟩ := he
      exact ⟨hr.symm, hs, by omega, by omega⟩

theorem keep4 {W W1 : World} {F : Nat → Prop} {n : Nat} {a b c e : Value} (hm : Mod F W W1) (hF : ∀ k, F k → k ≠ n ∧ k ≠ n + 1)
    (h : W.cell? ⟨n, 1, none⟩ = some a ∧ W.cell? ⟨n, 2, none⟩ = some b ∧ W.cell? ⟨n + 1, 0, none⟩ = some c ∧ W.cell? ⟨n + 1, 1, none⟩ = some e) :
    W1.cell? ⟨n, 1, none⟩ = some a ∧ W1.cell? ⟨n, 2, none⟩ = some b ∧ W1.cell? ⟨n + 1, 0, none⟩ = some c ∧ W1.cell? ⟨n + 1, 1, none⟩ = some e :=
  ⟨hm.cellOf h.1 (fun f => (hF _ f).1 rfl), hm.cellOf h.2.1 (fun f => (hF _ f).1 rfl), hm.cellOf h.2.2.1 (fun f => (hF _ f).2 rfl), hm.cellOf h.2.2.2 (fun f => (hF _ f).2 rfl)⟩

set_option maxHeartbeats 8000000 in
set_option maxRecDepth 100000 in
theorem step_give (w : World) (F : Nat → Prop) (W : World) (p d : Nat) (most gens : Int) (sl : List Slot) (fr : List Int) (live : Int) (vs vf : Value) (all : List One) (clock : Int) (va : Value) (h : PMem w F W p d most gens sl fr live vs vf all clock va) (hs : Sim sl fr all clock) (hl : all.length ≤ 300000) (hc : clock ≤ 300000000000) (o1 o2 o3 : Int) :
    Calls Try.prog 22 #[.pointer (some ⟨p, 0, none⟩), .pointer (some ⟨d, 0, none⟩), .agg #[.int .i64 2, .int .i64 o1, .int .i64 o2, .int .i64 o3]] W fun e w' => e = .returned (.bool true) ∧ Stepped w F p d most gens (all.length + 1) (clock + 1048576) w' := by
  have hck := hs.clk
  have H := Lib.hid h
  have HS := Lib.hid hs
  clear h hs
  go_enter Try.func22, Try.ntmps22
  go_wp2_with fail
  have HB := Lib.hid (H.out.keep (balloc (balloc (Below.refl _ _) (.cells #[.int .i64 2, .int .i64 o1, .int .i64 o2, .int .i64 o3] 36)) (.cells #[.int .i64 o1, .int .i64 o2] 40)))
  refine (HB.out.find hl o1 o2).mono ?_
  rintro e w3 ⟨⟨r, rfl, hf⟩, rfl⟩
  have HF := Lib.hid hf
  clear hf
  go_wp2_with fail
  have hpm := HB.out.keep (bdrew (Below.refl _ _))
  have n5 : ∀ k, (foot p vs vf k ∨ dfoot d va k) → k ≠ W.heap.size ∧ k ≠ W.heap.size + 1 := fun k hk => by
    have h1 : k < W.heap.size := by
      rcases hk with hk | hk
      · exact H.out.rep.footlt hk
      · exact H.out.drep.footlt hk
    omega
  have HN5 := Lib.hid n5
  clear n5
  go_region_held3 (fun w' => w'.cell? ⟨W.heap.size, 1, none⟩ = some (.int .i64 o1) ∧ w'.cell? ⟨W.heap.size, 2, none⟩ = some (.int .i64 o2) ∧ w'.cell? ⟨W.heap.size + 1, 0, none⟩ = some (.int .i64 o1) ∧ w'.cell? ⟨W.heap.size + 1, 1, none⟩ = some (.int .i64 o2))
    (first | go_keep | (exact keep4 hmodA (fun k hk => HN5.out k (.inl hk)) (by assumption)) | (exact keep4 hmodD (fun k hk => HN5.out k (.inr hk)) (by assumption)))
    (first
      | (go_at_call 15; refine (give_pmM w F _ p d most gens sl fr _ vs vf _ _ va (by assumption) o1 o2).mono ?_; rintro e w6 ⟨r1, sl', fr', vf', rfl, hA, hpmA, hmodA⟩)
      | (go_at_call 32; refine (giver_pmM w F _ p d most gens _ _ _ vs _ all clock va (by assumption) hl hck hc o1 o2).mono ?_; rintro e w6 ⟨r2, all', clock', rfl, hD, hpmD, hmodD⟩))
  all_goals
    obtain ⟨hr, hsim, hl1, hc1⟩ := give_join HS.out HB.out.inv hA.out hD.out
    have hfin : PMem w F w6 p d most gens sl' fr' (liveN sl') vs vf' all' clock' va := by assumption
    have HFIN := Lib.hid hfin
    have HSIM := Lib.hid hsim
    have hb : (r1 == r2) = true := beq_iff_eq.2 hr
    rw [hb]
    clear hA hD hpmA hpmD hmodA hmodD hfin hsim hr hb hpm
    go_wp2_with fail
    go_ret
    exact ⟨rfl, HFIN.out.stepped HSIM.out hl1 hc1⟩
end Go.Proofs.Ytppoakomeaamhaa
