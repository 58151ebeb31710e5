/- The arena of strings beside the document's arena of the numbers: a list of int slots stands for the string slots. -/
import Derived.Test.YtppoakomeaamhaaSp3
import Derived.Test.YtppoakomeaamhaaTr3
import Derived.Test.YtppoakomeaamhaaTn1
namespace Go.Proofs.Ytppoakomeaamhaa
open Go.RowKit
set_option linter.unusedVariables false

def strOf (z : Int) : ByteArray := ⟨(Lib.itoa z).toArray⟩
/-- The string slot that stands for a slot. -/
def toS (s : Slot) : Slot := ⟨s.gen, s.alive, if s.alive = true then .string (strOf (numV s.thing)) else .string ⟨#[]⟩⟩
theorem toS_gone (s : Slot) (z : Value) : toS (gone s z) = gone (toS s) (.string ⟨#[]⟩) := by simp [toS, gone]
theorem toS_anew (s : Slot) (z : Int) : toS (anew s (.int .i64 z)) = anew (toS s) (.string (strOf z)) := by simp [toS, anew, numV]
theorem toS_new (z : Int) : toS ⟨1, true, .int .i64 z⟩ = ⟨1, true, .string (strOf z)⟩ := by simp [toS, numV]
theorem toS_at {sl : List Slot} {i : Nat} {s : Slot} (h : sl[i]? = some s) : (sl.map toS)[i]? = some (toS s) := by rw [List.getElem?_map, h]; rfl
theorem at_toS {sl : List Slot} {i : Nat} {t : Slot} (h : (sl.map toS)[i]? = some t) : ∃ s, sl[i]? = some s ∧ t = toS s := by
  rw [List.getElem?_map] at h
  cases hs : sl[i]? with
  | none => rw [hs] at h; cases h
  | some s => rw [hs] at h; simp at h; exact ⟨s, rfl, h.symm⟩
theorem hit_toS {sl : List Slot} {s g : Int} : hit (sl.map toS) s g ↔ hit sl s g := by
  constructor
  · rintro ⟨i, t, e, h1, h2, h3⟩
    obtain ⟨u, hu, rfl⟩ := at_toS h1
    exact ⟨i, u, e, hu, h2, h3⟩
  · rintro ⟨i, t, e, h1, h2, h3⟩
    exact ⟨i, toS t, e, toS_at h1, h2, h3⟩
theorem countP_toS (sl : List Slot) : (sl.map toS).countP (·.alive) = sl.countP (·.alive) := by
  rw [List.countP_map]
  rfl
theorem liveN_toS (sl : List Slot) : liveN (sl.map toS) = liveN sl := by unfold liveN; rw [countP_toS]
theorem AInv.toS {most gens : Int} {sl : List Slot} {fr : List Int} {live : Int} (h : AInv most gens sl fr live) : AInv most gens (sl.map toS) fr live := by
  refine ⟨h.m1, h.m2, h.g1, h.g2, by rw [List.length_map]; exact h.len, ?_, ?_, h.frn, ?_, by rw [countP_toS]; exact h.cnt⟩
  · intro i s hs
    obtain ⟨u, hu, rfl⟩ := at_toS hs
    exact h.gen i u hu
  · intro x hx
    obtain ⟨i, s, e1, e2, e3, e4⟩ := h.frd x hx
    exact ⟨i, _, e1, toS_at e2, e3, e4⟩
  · intro i s hs h1 h2
    obtain ⟨u, hu, rfl⟩ := at_toS hs
    exact h.all i u hu h1 h2
theorem strs_toS (sl : List Slot) : Str.Strs (sl.map Go.Proofs.Ytppoakomeaamhaa.toS) := by
  intro i s hs
  obtain ⟨u, _, rfl⟩ := at_toS hs
  unfold Go.Proofs.Ytppoakomeaamhaa.toS
  split
  · exact ⟨_, rfl⟩
  · exact ⟨_, rfl⟩
theorem giveA_toS (gens : Int) (sl : List Slot) (fr : List Int) (i : Nat) (g : Int) :
    giveA gens (.string ⟨#[]⟩) (sl.map toS, fr) i g = ((giveA gens (.int .i64 0) (sl, fr) i g).1.map toS, (giveA gens (.int .i64 0) (sl, fr) i g).2) := by
  cases h : sl[i]? with
  | none =>
    have h2 : (sl.map toS)[i]? = none := by rw [List.getElem?_map, h]; rfl
    unfold giveA
    simp only [h, h2]
  | some s =>
    have h2 := toS_at h
    by_cases hc : s.alive = true ∧ s.gen = g
    · obtain ⟨ha, rfl⟩ := hc
      rw [giveA_hit h ha, show s.gen = (toS s).gen from rfl, giveA_hit h2 ha]
      simp only [List.map_set, toS_gone]
    · have n1 : ¬ hit sl (i : Int) g := by
        rintro ⟨j, t, e, h3, h4, h5⟩
        obtain rfl : i = j := by omega
        rw [h] at h3
        simp at h3
        subst h3
        exact hc ⟨h4, h5⟩
      rw [giveA_no (S := (sl, fr)) n1, giveA_no (S := (sl.map toS, fr)) (fun hx => n1 (hit_toS.1 hx))]
theorem giveAll_toS {V V' : Type} (gens : Int) (f : V → V') : ∀ (xs : List (Nat × Int × V)) (sl : List Slot) (fr : List Int),
    giveAll gens (.string ⟨#[]⟩) (sl.map toS, fr) (xs.map fun x => (x.1, x.2.1, f x.2.2)) = ((giveAll gens (.int .i64 0) (sl, fr) xs).1.map toS, (giveAll gens (.int .i64 0) (sl, fr) xs).2) := by
  intro xs
  induction xs with
  | nil => intro sl fr; rfl
  | cons x xs ih =>
    intro sl fr
    have e1 : giveAll gens (.int .i64 0) (sl, fr) (x :: xs) = giveAll gens (.int .i64 0) (giveA gens (.int .i64 0) (sl, fr) x.1 x.2.1) xs := rfl
    have e2 : giveAll gens (.string ⟨#[]⟩) (sl.map toS, fr) ((x :: xs).map fun x => (x.1, x.2.1, f x.2.2)) = giveAll gens (.string ⟨#[]⟩) (giveA gens (.string ⟨#[]⟩) (sl.map toS, fr) x.1 x.2.1) (xs.map fun x => (x.1, x.2.1, f x.2.2)) := rfl
    rw [e1, e2, giveA_toS]
    exact ih _ _
theorem told_toS (sl : List Slot) : ∀ k, told Str.strV (sl.map toS) k = (told numV sl k).map fun x => (x.1, x.2.1, strOf x.2.2) := by
  intro k
  induction k with
  | zero => rfl
  | succ k ih =>
    unfold told
    rw [ih, List.map_append]
    cases h : sl[k]? with
    | none =>
      have h2 : (sl.map toS)[k]? = none := by rw [List.getElem?_map, h]; rfl
      rw [h2]
      rfl
    | some s =>
      rw [toS_at h]
      simp only
      by_cases ha : s.alive = true
      · rw [if_pos (show (toS s).alive = true from ha), if_pos ha]
        simp [toS, ha, Str.strV]
      · rw [if_neg (show ¬ (toS s).alive = true from ha), if_neg ha]
        rfl

/-- Every thing is a number within its kind. -/
def Rng (sl : List Slot) : Prop := ∀ (i : Nat) (s : Slot), sl[i]? = some s → ∃ z, s.thing = .int .i64 z ∧ -9223372036854775808 ≤ z ∧ z ≤ 9223372036854775807
theorem Rng.nums {sl : List Slot} (h : Rng sl) : Nums sl := fun i s hs => by obtain ⟨z, e, _⟩ := h i s hs; exact ⟨z, e⟩
theorem Rng.nil : Rng [] := fun i s h => by simp at h
theorem Rng.set {sl : List Slot} (h : Rng sl) (i : Nat) (s : Slot) (hz : ∃ z, s.thing = .int .i64 z ∧ -9223372036854775808 ≤ z ∧ z ≤ 9223372036854775807) : Rng (sl.set i s) := by
  intro j s' hj
  rw [List.getElem?_set] at hj
  split at hj
  · split at hj
    · simp at hj; subst hj; exact hz
    · simp at hj
  · exact h j s' hj
theorem Rng.taken {sl sl' : List Slot} {i : Nat} {g v : Int} (h : Rng sl) (ht : Taken sl sl' i g (.int .i64 v)) (h0 : -9223372036854775808 ≤ v) (h1 : v ≤ 9223372036854775807) : Rng sl' := by
  intro j s' hj
  by_cases e : j = i
  · subst e
    rw [ht.now] at hj
    simp at hj
    subst hj
    exact ⟨v, rfl, h0, h1⟩
  · rw [ht.oth j e] at hj
    exact h j s' hj
theorem rng_giveA {gens : Int} {S : List Slot × List Int} (h : Rng S.1) (i : Nat) (g : Int) : Rng (giveA gens (.int .i64 0) S i g).1 := by
  unfold giveA
  split
  · split
    · exact h.set _ _ ⟨0, rfl, by omega, by omega⟩
    · exact h
  · exact h
theorem rng_giveAll {V : Type} {gens : Int} : ∀ (xs : List (Nat × Int × V)) {S : List Slot × List Int}, Rng S.1 → Rng (giveAll gens (.int .i64 0) S xs).1 := by
  intro xs
  induction xs with
  | nil => intro S h; exact h
  | cons x xs ih => intro S h; exact ih (rng_giveA h x.1 x.2.1)
theorem inv_giveAll {V : Type} {most gens : Int} {z : Value} : ∀ (xs : List (Nat × Int × V)) {S : List Slot × List Int}, AInv most gens S.1 S.2 (liveN S.1) → AInv most gens (giveAll gens z S xs).1 (giveAll gens z S xs).2 (liveN (giveAll gens z S xs).1) := by
  intro xs
  induction xs with
  | nil => intro S h; exact h
  | cons x xs ih => intro S h; exact ih (h.giveA x.1 x.2.1 z)

/-- Both arenas lie apart. -/
structure TMem (w : World) (F : Nat → Prop) (W : World) (p d : Nat) (most gens : Int) (sl : List Slot) (fr : List Int) (live : Int) (vs vf : Value) (all : List One) (clock : Int) (va : Value) : Prop where
  rep : ARep W 58 81 p most gens (sl.map toS) fr live vs vf
  inv : AInv most gens sl fr live
  num : Rng sl
  drep : DRep W d most gens all clock va
  sep : ∀ k, foot p vs vf k → ¬ dfoot d va k
  low : ∀ k, foot p vs vf k ∨ dfoot d va k → k < w.heap.size → F k
  bel : Mod F w W

section
variable {w : World} {F : Nat → Prop} {W W' : World} {p d : Nat} {most gens : Int} {sl sl' : List Slot} {fr fr' : List Int} {live live' : Int} {vs vf vs' vf' : Value} {all all' : List One} {clock clock' : Int} {va va' : Value}
theorem TMem.keep (h : TMem w F W p d most gens sl fr live vs vf all clock va) (hb : Below W.heap.size W W') : TMem w F W' p d most gens sl fr live vs vf all clock va :=
  ⟨h.rep.keep hb, h.inv, h.num, h.drep.keep hb, h.sep, h.low, h.bel.trans (Mod.ofBelow hb) (fun _ _ f => f)⟩
theorem TMem.ofA (h : TMem w F W p d most gens sl fr live vs vf all clock va) (hn : ANow W W' 58 81 p most gens (sl'.map toS) fr' live' vs vf vs' vf') (hi : AInv most gens sl' fr' live') (hu : Rng sl') : TMem w F W' p d most gens sl' fr' live' vs' vf' all clock va := by
  refine ⟨hn.rep, hi, hu, h.drep.mod hn.mod (fun k hd hf => h.sep k hf hd), ?_, ?_, h.bel.trans hn.mod (fun i hi hf => h.low i (.inl hf) hi)⟩
  · intro k hf hd
    exact h.sep k (hn.foots k hf (h.drep.footlt hd)) hd
  · rintro k (hf | hd) hk
    · exact h.low k (.inl (hn.foots k hf (Nat.lt_of_lt_of_le hk h.bel.size))) hk
    · exact h.low k (.inr hd) hk
theorem TMem.ofD (h : TMem w F W p d most gens sl fr live vs vf all clock va) (hn : DNow W W' d most gens all' clock' va va') : TMem w F W' p d most gens sl fr live vs vf all' clock' va' := by
  refine ⟨h.rep.mod hn.mod (fun k hf hd => h.sep k hf hd), h.inv, h.num, hn.rep, ?_, ?_, h.bel.trans hn.mod (fun i hi hd => h.low i (.inr hd) hi)⟩
  · intro k hf hd
    exact h.sep k hf (hn.foots k hd (h.rep.footlt hf))
  · rintro k (hf | hd) hk
    · exact h.low k (.inl hf) hk
    · exact h.low k (.inr (hn.foots k hd (Nat.lt_of_lt_of_le hk h.bel.size))) hk
theorem TMem.eqLive (h : TMem w F W p d most gens sl fr live vs vf all clock va) : live = liveN sl := h.inv.live_eq
end

/-- What Take does on both sides, where it goes well. -/
structure TookBothS (W W' : World) (p : Nat) (most gens : Int) (sl : List Slot) (fr : List Int) (live : Int) (vs vf : Value) (all : List One) (clock v : Int) (e : Ending) (i : Nat) (g : Int) (sl' : List Slot) (fr' : List Int) (vs' vf' : Value) : Prop where
  he : e = .returned (.tuple #[.agg #[.int .i64 i, .int .i64 g], .int .i64 0])
  now : ANow W W' 58 81 p most gens (sl'.map toS) fr' (live + 1) vs vf vs' vf'
  inv : AInv most gens sl' fr' (live + 1)
  taken : Taken sl sl' i g (.int .i64 v)
  pick : pickL all most gens = i
  genl : genL all (i : Int) = g
  sim : Sim sl' fr' (all ++ [newOne all (pickL all most gens) v]) clock

theorem take_simS (W : World) (p : Nat) (most gens : Int) (sl : List Slot) (fr : List Int) (live : Int) (vs vf : Value) (all : List One) (clock v : Int)
    (h : ARep W 58 81 p most gens (sl.map toS) fr live vs vf) (hi : AInv most gens sl fr live) (hs : Sim sl fr all clock) :
    Calls Try.prog 37 #[.pointer (some ⟨p, 0, none⟩), .string (strOf v)] W fun e w' =>
      (e = .returned (.tuple #[.agg #[.int .i64 0, .int .i64 0], .int .i64 31]) ∧ Below W.heap.size W w' ∧ pickL all most gens < 0) ∨
      ∃ i g sl' fr' vs' vf', TookBothS W w' p most gens sl fr live vs vf all clock v e i g sl' fr' vs' vf' := by
  have hcnt := hi.count
  have h1 := hi.len
  have h2 := hi.m2
  have h3 := hi.g2
  have hlm : (sl.map toS).length = sl.length := List.length_map ..
  rcases List.eq_nil_or_concat fr with rfl | ⟨fr0, x, rfl⟩
  · have hp := hs.pick_none hi
    by_cases hr : (sl.length : Int) < most
    · rw [if_pos hr] at hp
      have ht := taken_new sl (.int .i64 v)
      have hsm := hs.take hi ht (fr' := []) (by simp) (by simp)
      have hno : newOne all (pickL all most gens) v = ⟨(sl.length : Int), 1, v, true, 0⟩ := by rw [hp]; unfold newOne; rw [genL_new hs]
      refine (Str.take_new W p most gens (sl.map toS) live vs vf (strOf v) h (by rw [hlm]; exact hr) (by omega) (by omega) (by omega)).mono ?_
      rintro e w' ⟨rfl, vs', hn⟩
      have e1 : sl.map toS ++ ([⟨1, true, .string (strOf v)⟩] : List Slot) = (sl ++ ([⟨1, true, .int .i64 v⟩] : List Slot)).map toS := by rw [List.map_append, List.map_cons, List.map_nil, toS_new]
      rw [e1] at hn
      exact .inr ⟨sl.length, 1, _, [], vs', vf, by rw [hlm], hn, inv_new hi hr _, ht, hp, genL_new hs, by rw [hno]; exact hsm⟩
    · rw [if_neg hr] at hp
      refine (Str.take_full W p most gens (sl.map toS) live vs vf (strOf v) h (by omega)).mono ?_
      rintro e w' ⟨rfl, hb⟩
      exact .inl ⟨rfl, hb, by omega⟩
  · rw [List.concat_eq_append] at h hi hs
    have hp := hs.pick_free hi
    obtain ⟨i, s0, rfl, _⟩ := hi.frd x (by simp)
    obtain ⟨s, hsl, hd, hg, hg1, hi'⟩ := inv_free hi (.int .i64 v)
    rw [List.concat_eq_append]
    have ht := taken_free hsl hd (by omega) (.int .i64 v)
    have hnd := hi.frn
    rw [List.nodup_append] at hnd
    have hsm := hs.take hi ht (fr' := fr0) (fun x hx => ⟨by simp [hx], fun e => hnd.2.2 _ hx _ (by simp) e⟩) (List.pairwise_append.1 hs.ord).1
    have hgl := genL_old hs hsl
    have hno : newOne all (pickL all most gens) v = ⟨(i : Int), s.gen + 1, v, true, 0⟩ := by rw [hp]; unfold newOne; rw [hgl]
    refine (Str.take_free W p most gens (sl.map toS) fr0 live vs vf i (toS s) (toS_at hsl) (strOf v) h (show 0 ≤ s.gen by omega) (show s.gen ≤ 9000000000 by omega) (by omega) (by omega)).mono ?_
    rintro e w' ⟨rfl, vf', hn⟩
    have e1 : (sl.map toS).set i (anew (toS s) (.string (strOf v))) = (sl.set i (anew s (.int .i64 v))).map toS := by rw [List.map_set, toS_anew]
    rw [e1] at hn
    exact .inr ⟨i, s.gen + 1, _, fr0, vs, vf', rfl, hn, hi', ht, hp, hgl, by rw [hno]; exact hsm⟩

/-- Give of the arena, with what it leaves alone. -/
theorem give_tm (w : World) (F : Nat → Prop) (W : World) (p d : Nat) (most gens : Int) (sl : List Slot) (fr : List Int) (live : Int) (vs vf : Value) (all : List One) (clock : Int) (va : Value) (h : TMem w F W p d most gens sl fr live vs vf all clock va) (s g : Int) :
    Calls Try.prog 39 #[.pointer (some ⟨p, 0, none⟩), .agg #[.int .i64 s, .int .i64 g]] W fun e w' => ∃ (r : Int) (sl' : List Slot) (fr' : List Int) (vf' : Value), e = .returned (.int .i64 r) ∧
      Hid ((hit sl s g ∧ r = 0 ∧ ∃ i : Nat, s = i ∧ (sl', fr') = giveA gens (.int .i64 0) (sl, fr) i g) ∨ (¬ hit sl s g ∧ r = 32 ∧ (sl', fr') = (sl, fr))) ∧ TMem w F w' p d most gens sl' fr' (liveN sl') vs vf' all clock va ∧ Mod (foot p vs vf) W w' := by
  have hlv := h.eqLive
  by_cases hh : hit sl s g
  · have hh' := hh
    obtain ⟨i, t, rfl, ht, ha, rfl⟩ := hh
    obtain ⟨k1, k2, k3⟩ := inv_gone h.inv ht ha (.int .i64 0)
    refine (Str.give_any W p most gens (sl.map toS) fr live vs vf h.rep h.inv.toS i (toS t) (toS_at ht) ha t.gen rfl).mono ?_
    rintro e w' ⟨fr', vf', rfl, hn, hi', hfr⟩
    have hfr' : fr' = if t.gen < gens then fr ++ [(i : Int)] else fr := hfr
    subst hfr'
    have e1 : (sl.map toS).set i (gone (toS t) (.string ⟨#[]⟩)) = (sl.set i (gone t (.int .i64 0))).map toS := by rw [List.map_set, toS_gone]
    rw [e1] at hn
    have hi2 : AInv most gens (sl.set i (gone t (.int .i64 0))) (if t.gen < gens then fr ++ [(i : Int)] else fr) (live - 1) := by
      by_cases hl : t.gen < gens
      · rw [if_pos hl]; exact k3 hl
      · rw [if_neg hl]; exact k2 (by omega)
    have hl' := hi2.live_eq
    rw [hl'] at hn hi2
    exact ⟨0, _, _, vf', rfl, .inl ⟨hh', rfl, i, rfl, (giveA_hit ht ha).symm⟩, h.ofA hn hi2 (h.num.set _ _ ⟨0, rfl, by omega, by omega⟩), hn.mod⟩
  · refine (Str.give_no W p most gens (sl.map toS) fr live vs vf h.rep s g (fun hx => hh (hit_toS.1 hx))).mono ?_
    rintro e w' ⟨rfl, hb⟩
    exact ⟨32, sl, fr, vf, rfl, .inr ⟨hh, rfl, rfl⟩, by rw [← hlv]; exact h.keep hb, Mod.ofBelow hb⟩
theorem giver_tm (w : World) (F : Nat → Prop) (W : World) (p d : Nat) (most gens : Int) (sl : List Slot) (fr : List Int) (live : Int) (vs vf : Value) (all : List One) (clock : Int) (va : Value) (h : TMem w F W p d most gens sl fr live vs vf all clock va) (hl : all.length ≤ 300000) (hc0 : 0 ≤ clock) (hc : clock ≤ 300000000000) (s g : Int) :
    Calls Try.prog 32 #[.pointer (some ⟨d, 0, none⟩), .int .i64 s, .int .i64 g] W fun e w' => ∃ (r : Int) (all' : List One) (clock' : Int), e = .returned (.int .i64 r) ∧
      Hid ((r = 32 ∨ r = 0) ∧ (r = 32 ↔ ∀ (j : Nat) (o : One), all[j]? = some o → ¬ isRef o s g) ∧ GiveR (all, clock) s g (all', clock')) ∧ TMem w F w' p d most gens sl fr live vs vf all' clock' va ∧ Mod (dfoot d va) W w' := by
  refine (give_refR W d most gens (all, clock) va h.drep (by simp; omega) hc0 (by simp; omega) s g).mono ?_
  rintro e w' ⟨r, ⟨all', clock'⟩, rfl, h1, h2, h3, h4⟩
  exact ⟨r, all', clock', rfl, ⟨h1, h2, h3⟩, h.ofD h4, h4.mod⟩
/-- Clear of the arena. -/
theorem clear_tm (w : World) (F : Nat → Prop) (W : World) (p d : Nat) (most gens : Int) (sl : List Slot) (fr : List Int) (live : Int) (vs vf : Value) (all : List One) (clock : Int) (va : Value) (h : TMem w F W p d most gens sl fr live vs vf all clock va) :
    Calls Try.prog 41 #[.pointer (some ⟨p, 0, none⟩)] W fun e w' => e = .returned (.tuple #[]) ∧ ∃ vf',
      TMem w F w' p d most gens (giveAll gens (.int .i64 0) (sl, fr) (told numV sl sl.length)).1 (giveAll gens (.int .i64 0) (sl, fr) (told numV sl sl.length)).2 (liveN (giveAll gens (.int .i64 0) (sl, fr) (told numV sl sl.length)).1) vs vf' all clock va := by
  have hi2 := h.inv
  have hlv := h.eqLive
  rw [hlv] at hi2
  have hi3 := inv_giveAll (S := (sl, fr)) (z := .int .i64 0) (told numV sl sl.length) hi2
  refine (Str.clear_any W p most gens (sl.map toS) fr live vs vf h.rep h.inv.toS (strs_toS sl)).mono ?_
  rintro e w' ⟨rfl, vf', hn, _⟩
  rw [List.length_map, told_toS, giveAll_toS, liveN_toS] at hn
  exact ⟨rfl, vf', h.ofA hn hi3 (rng_giveAll (S := (sl, fr)) _ h.num)⟩

/-- What a twin's step leaves. -/
def TStepped (w : World) (F : Nat → Prop) (p d : Nat) (most gens : Int) (n : Nat) (c : Int) (W : World) : Prop :=
  ∃ sl fr vs vf all clock va, TMem w F W p d most gens sl fr (liveN sl) vs vf all clock va ∧ Sim sl fr all clock ∧ all.length ≤ n ∧ clock ≤ c
theorem TStepped.keep {w : World} {F : Nat → Prop} {W W' : World} {p d : Nat} {most gens : Int} {n : Nat} {c : Int} (h : TStepped w F p d most gens n c W) (hb : Below W.heap.size W W') : TStepped w F p d most gens n c W' := by
  obtain ⟨sl, fr, vs, vf, all, clock, va, h1, h2, h3, h4⟩ := h
  exact ⟨sl, fr, vs, vf, all, clock, va, h1.keep hb, h2, h3, h4⟩
theorem TStepped.weaken {w : World} {F : Nat → Prop} {W : World} {p d : Nat} {most gens : Int} {n n' : Nat} {c c' : Int} (h : TStepped w F p d most gens n c W) (hn : n ≤ n') (hc : c ≤ c') : TStepped w F p d most gens n' c' W := by
  obtain ⟨sl, fr, vs, vf, all, clock, va, h1, h2, h3, h4⟩ := h
  exact ⟨sl, fr, vs, vf, all, clock, va, h1, h2, by omega, by omega⟩
theorem TMem.stepped {w : World} {F : Nat → Prop} {W : World} {p d : Nat} {most gens : Int} {sl : List Slot} {fr : List Int} {live : Int} {vs vf : Value} {all : List One} {clock : Int} {va : Value} (h : TMem w F W p d most gens sl fr live vs vf all clock va) (hs : Sim sl fr all clock) {n : Nat} {c : Int} (hn : all.length ≤ n) (hc : clock ≤ c) : TStepped w F p d most gens n c W := by
  have := h.eqLive
  subst this
  exact ⟨sl, fr, vs, vf, all, clock, va, h, hs, hn, hc⟩
end Go.Proofs.Ytppoakomeaamhaa
