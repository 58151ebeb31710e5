/- The arena and the document's arena side by side: memory and contracts. -/
import Derived.Test.YtppoakomeaamhaaWk1
namespace Go.Proofs.Ytppoakomeaamhaa
open Go.RowKit
set_option linter.unusedVariables false

/-- Both arenas lie in new blocks, apart. -/
structure PMem (w : World) (F : Nat → Prop) (W : World) (p d : Nat) (most gens : Int) (sl : List Slot) (fr : List Int) (live : Int) (vs vf : Value) (all : List One) (clock : Int) (va : Value) : Prop where
  rep : ARep W 61 65 p most gens sl fr live vs vf
  inv : AInv most gens sl fr live
  num : Nums sl
  drep : DRep W d most gens all clock va
  sep : ∀ k, foot p vs vf k → ¬ dfoot d va k
  low : ∀ k, foot p vs vf k ∨ dfoot d va k → k < w.heap.size → F k
  bel : Mod F w W

section
variable {w : World} {F : Nat → Prop} {W W' : World} {p d : Nat} {most gens : Int} {sl sl' : List Slot} {fr fr' : List Int} {live live' : Int} {vs vf vs' vf' : Value} {all all' : List One} {clock clock' : Int} {va va' : Value}
theorem PMem.keep (h : PMem w F W p d most gens sl fr live vs vf all clock va) (hb : Below W.heap.size W W') : PMem w F W' p d most gens sl fr live vs vf all clock va :=
  ⟨h.rep.keep hb, h.inv, h.num, h.drep.keep hb, h.sep, h.low, h.bel.trans (Mod.ofBelow hb) (fun _ _ f => f)⟩
theorem PMem.ofA (h : PMem w F W p d most gens sl fr live vs vf all clock va) (hn : ANow W W' 61 65 p most gens sl' fr' live' vs vf vs' vf') (hi : AInv most gens sl' fr' live') (hu : Nums sl') : PMem w F W' p d most gens sl' fr' live' vs' vf' all clock va := by
  refine ⟨hn.rep, hi, hu, h.drep.mod hn.mod (fun k hd hf => h.sep k hf hd), ?_, ?_, h.bel.trans hn.mod (fun i hi hf => h.low i (.inl hf) hi)⟩
  · intro k hf hd
    exact h.sep k (hn.foots k hf (h.drep.footlt hd)) hd
  · rintro k (hf | hd) hk
    · exact h.low k (.inl (hn.foots k hf (Nat.lt_of_lt_of_le hk h.bel.size))) hk
    · exact h.low k (.inr hd) hk
theorem PMem.ofD (h : PMem w F W p d most gens sl fr live vs vf all clock va) (hn : DNow W W' d most gens all' clock' va va') : PMem w F W' p d most gens sl fr live vs vf all' clock' va' := by
  refine ⟨h.rep.mod hn.mod (fun k hf hd => h.sep k hf hd), h.inv, h.num, hn.rep, ?_, ?_, h.bel.trans hn.mod (fun i hi hd => h.low i (.inr hd) hi)⟩
  · intro k hf hd
    exact h.sep k hf (hn.foots k hd (h.rep.footlt hf))
  · rintro k (hf | hd) hk
    · exact h.low k (.inl hf) hk
    · exact h.low k (.inr (hn.foots k hd (Nat.lt_of_lt_of_le hk h.bel.size))) hk
theorem PMem.eqLive (h : PMem w F W p d most gens sl fr live vs vf all clock va) : live = liveN sl := h.inv.live_eq
end

theorem genL_new {sl : List Slot} {fr : List Int} {all : List One} {clock : Int} (h : Sim sl fr all clock) : genL all (sl.length : Int) = 1 := by
  have : lastL all (sl.length : Int) = -1 := lastN_none (fun j o ho => by
    obtain ⟨i, s, e1, e2, _⟩ := h.ent j o ho
    have := (List.getElem?_eq_some_iff.1 e2).1
    omega)
  unfold genL
  rw [this]
  rfl
theorem genL_old {sl : List Slot} {fr : List Int} {all : List One} {clock : Int} (h : Sim sl fr all clock) {i : Nat} {s : Slot} (hs : sl[i]? = some s) : genL all (i : Int) = s.gen + 1 := by
  obtain ⟨k, o, e1, e2, e3, e4, _⟩ := h.las i s hs
  unfold genL
  rw [e1, if_neg (by omega), Int.toNat_natCast, e2]
  simp only [e4]

/-- What Take does on both sides, where it goes well. -/
structure TookBoth (W W' : World) (p : Nat) (most gens : Int) (sl : List Slot) (fr : List Int) (live : Int) (vs vf : Value) (all : List One) (clock v : Int) (e : Ending) (i : Nat) (g : Int) (sl' : List Slot) (fr' : List Int) (vs' vf' : Value) : Prop where
  he : e = .returned (.tuple #[.agg #[.int .i64 i, .int .i64 g], .int .i64 0])
  now : ANow W W' 61 65 p most gens sl' fr' (live + 1) vs vf vs' vf'
  inv : AInv most gens sl' fr' (live + 1)
  taken : Taken sl sl' i g (.int .i64 v)
  pick : pickL all most gens = i
  genl : genL all (i : Int) = g
  sim : Sim sl' fr' (all ++ [newOne all (pickL all most gens) v]) clock

theorem take_sim (W : World) (p : Nat) (most gens : Int) (sl : List Slot) (fr : List Int) (live : Int) (vs vf : Value) (all : List One) (clock v : Int)
    (h : ARep W 61 65 p most gens sl fr live vs vf) (hi : AInv most gens sl fr live) (hs : Sim sl fr all clock) :
    Calls Try.prog 16 #[.pointer (some ⟨p, 0, none⟩), .int .i64 v] W fun e w' =>
      (e = .returned (.tuple #[.agg #[.int .i64 0, .int .i64 0], .int .i64 31]) ∧ Below W.heap.size W w' ∧ pickL all most gens < 0) ∨
      ∃ i g sl' fr' vs' vf', TookBoth W w' p most gens sl fr live vs vf all clock v e i g sl' fr' vs' vf' := by
  have hcnt := hi.count
  have h1 := hi.len
  have h2 := hi.m2
  have h3 := hi.g2
  rcases List.eq_nil_or_concat fr with rfl | ⟨fr0, x, rfl⟩
  · have hp := hs.pick_none hi
    by_cases hr : (sl.length : Int) < most
    · rw [if_pos hr] at hp
      have ht := taken_new sl (.int .i64 v)
      have hsm := hs.take hi ht (fr' := []) (by simp) (by simp)
      have hno : newOne all (pickL all most gens) v = ⟨(sl.length : Int), 1, v, true, 0⟩ := by rw [hp]; unfold newOne; rw [genL_new hs]
      refine (take_new W p most gens sl live vs vf v h hr (by omega) (by omega) (by omega)).mono ?_
      rintro e w' ⟨rfl, vs', hn⟩
      exact .inr ⟨sl.length, 1, _, [], vs', vf, rfl, hn, inv_new hi hr _, ht, hp, genL_new hs, by rw [hno]; exact hsm⟩
    · rw [if_neg hr] at hp
      refine (take_full W p most gens sl live vs vf v h (by omega)).mono ?_
      rintro e w' ⟨rfl, hb⟩
      exact .inl ⟨rfl, hb, by omega⟩
  · rw [List.concat_eq_append] at h hi hs
    have hp := hs.pick_free hi
    obtain ⟨i, s0, rfl, _⟩ := hi.frd x (by simp)
    obtain ⟨s, hsl, hd, hg, hg1, hi'⟩ := inv_free hi (.int .i64 v)
    rw [List.concat_eq_append]
    have ht := taken_free hsl hd (by omega) (.int .i64 v)
    have hnd := hi.frn
    rw [List.nodup_append] at hnd
    have hsm := hs.take hi ht (fr' := fr0) (fun x hx => ⟨by simp [hx], fun e => hnd.2.2 _ hx _ (by simp) e⟩) (List.pairwise_append.1 hs.ord).1
    have hgl := genL_old hs hsl
    have hno : newOne all (pickL all most gens) v = ⟨(i : Int), s.gen + 1, v, true, 0⟩ := by rw [hp]; unfold newOne; rw [hgl]
    refine (take_free W p most gens sl fr0 live vs vf i s hsl v h (by omega) (by omega) (by omega) (by omega)).mono ?_
    rintro e w' ⟨rfl, vf', hn⟩
    exact .inr ⟨i, s.gen + 1, _, fr0, vs, vf', rfl, hn, hi', ht, hp, hgl, by rw [hno]; exact hsm⟩

/-- Give of the arena, at any reference. -/
theorem give_pm (w : World) (F : Nat → Prop) (W : World) (p d : Nat) (most gens : Int) (sl : List Slot) (fr : List Int) (live : Int) (vs vf : Value) (all : List One) (clock : Int) (va : Value) (h : PMem w F W p d most gens sl fr live vs vf all clock va) (s g : Int) :
    Calls Try.prog 15 #[.pointer (some ⟨p, 0, none⟩), .agg #[.int .i64 s, .int .i64 g]] W fun e w' => ∃ (r : Int) (sl' : List Slot) (fr' : List Int) (vf' : Value), e = .returned (.int .i64 r) ∧
      Hid ((hit sl s g ∧ r = 0 ∧ ∃ i : Nat, s = i ∧ (sl', fr') = giveA gens (.int .i64 0) (sl, fr) i g) ∨ (¬ hit sl s g ∧ r = 32 ∧ (sl', fr') = (sl, fr))) ∧ PMem w F w' p d most gens sl' fr' (liveN sl') vs vf' all clock va := by
  have hlv := h.eqLive
  by_cases hh : hit sl s g
  · have hh' := hh
    obtain ⟨i, t, rfl, ht, ha, rfl⟩ := hh
    refine (give_any W p most gens sl fr live vs vf h.rep h.inv i t ht ha t.gen rfl).mono ?_
    rintro e w' ⟨fr', vf', rfl, hn, hi', rfl⟩
    have hl' := hi'.live_eq
    rw [hl'] at hn hi'
    exact ⟨0, _, _, vf', rfl, .inl ⟨hh', rfl, i, rfl, (giveA_hit ht ha).symm⟩, h.ofA hn hi' (h.num.set _ _ ⟨0, rfl⟩)⟩
  · refine (give_no W p most gens sl fr live vs vf h.rep s g hh).mono ?_
    rintro e w' ⟨rfl, hb⟩
    exact ⟨32, sl, fr, vf, rfl, .inr ⟨hh, rfl, rfl⟩, by rw [← hlv]; exact h.keep hb⟩

/-- Give of the document's arena. -/
theorem giver_pm (w : World) (F : Nat → Prop) (W : World) (p d : Nat) (most gens : Int) (sl : List Slot) (fr : List Int) (live : Int) (vs vf : Value) (R : List One × Int) (va : Value) (h : PMem w F W p d most gens sl fr live vs vf R.1 R.2 va) (hl : R.1.length ≤ 300000) (hc0 : 0 ≤ R.2) (hc : R.2 ≤ 300000000000) (s g : Int) :
    Calls Try.prog 32 #[.pointer (some ⟨d, 0, none⟩), .int .i64 s, .int .i64 g] W fun e w' => ∃ (r : Int) (R' : List One × Int), e = .returned (.int .i64 r) ∧
      Hid ((r = 32 ∨ r = 0) ∧ (r = 32 ↔ ∀ (j : Nat) (o : One), R.1[j]? = some o → ¬ isRef o s g) ∧ GiveR R s g R') ∧ PMem w F w' p d most gens sl fr live vs vf R'.1 R'.2 va := by
  refine (give_refR W d most gens R va h.drep (by omega) hc0 (by omega) s g).mono ?_
  rintro e w' ⟨r, R', rfl, h1, h2, h3, h4⟩
  exact ⟨r, R', rfl, ⟨h1, h2, h3⟩, h.ofD h4⟩

/-- What a step leaves. -/
def Stepped (w : World) (F : Nat → Prop) (p d : Nat) (most gens : Int) (n : Nat) (c : Int) (W : World) : Prop :=
  ∃ sl fr vs vf all clock va, PMem w F W p d most gens sl fr (liveN sl) vs vf all clock va ∧ Sim sl fr all clock ∧ all.length ≤ n ∧ clock ≤ c
theorem Stepped.keep {w : World} {F : Nat → Prop} {W W' : World} {p d : Nat} {most gens : Int} {n : Nat} {c : Int} (h : Stepped w F p d most gens n c W) (hb : Below W.heap.size W W') : Stepped w F p d most gens n c W' := by
  obtain ⟨sl, fr, vs, vf, all, clock, va, h1, h2, h3, h4⟩ := h
  exact ⟨sl, fr, vs, vf, all, clock, va, h1.keep hb, h2, h3, h4⟩
theorem Stepped.weaken {w : World} {F : Nat → Prop} {W : World} {p d : Nat} {most gens : Int} {n n' : Nat} {c c' : Int} (h : Stepped w F p d most gens n c W) (hn : n ≤ n') (hc : c ≤ c') : Stepped w F p d most gens n' c' W := by
  obtain ⟨sl, fr, vs, vf, all, clock, va, h1, h2, h3, h4⟩ := h
  exact ⟨sl, fr, vs, vf, all, clock, va, h1, h2, by omega, by omega⟩
theorem PMem.stepped {w : World} {F : Nat → Prop} {W : World} {p d : Nat} {most gens : Int} {sl : List Slot} {fr : List Int} {live : Int} {vs vf : Value} {all : List One} {clock : Int} {va : Value} (h : PMem w F W p d most gens sl fr live vs vf all clock va) (hs : Sim sl fr all clock) {n : Nat} {c : Int} (hn : all.length ≤ n) (hc : clock ≤ c) : Stepped w F p d most gens n c W := by
  have := h.eqLive
  subst this
  exact ⟨sl, fr, vs, vf, all, clock, va, h, hs, hn, hc⟩
end Go.Proofs.Ytppoakomeaamhaa
