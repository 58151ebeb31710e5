/- Two arenas, each beside its document, apart. -/
import Derived.Test.YtppoakomeaamhaaPl1
import Derived.Test.YtppoakomeaamhaaTm4
namespace Go.Proofs.Ytppoakomeaamhaa
open Go.RowKit
set_option linter.unusedVariables false

section
variable {w : World} {F G : Nat → Prop} {W W' : World} {p d : Nat} {most gens : Int} {sl sl' : List Slot} {fr fr' : List Int} {live live' : Int} {vs vf vs' vf' : Value} {all all' : List One} {clock clock' : Int} {va va' : Value}
theorem PMem.rebase (h : PMem w F W p d most gens sl fr live vs vf all clock va) : PMem W (fun k => foot p vs vf k ∨ dfoot d va k) W p d most gens sl fr live vs vf all clock va :=
  ⟨h.rep, h.inv, h.num, h.drep, h.sep, fun k hk _ => hk, Mod.refl _ _⟩
theorem PMem.unbase (h : PMem w F W p d most gens sl fr live vs vf all clock va) (h' : PMem W (fun k => foot p vs vf k ∨ dfoot d va k) W' p d most gens sl' fr' live' vs' vf' all' clock' va') : PMem w F W' p d most gens sl' fr' live' vs' vf' all' clock' va' :=
  ⟨h'.rep, h'.inv, h'.num, h'.drep, h'.sep, fun k hk hl => h.low k (h'.low k hk (Nat.lt_of_lt_of_le hl h.bel.size)) hl, h.bel.trans h'.bel (fun i hi hf => h.low i hf hi)⟩
theorem PMem.beside (h : PMem w F W p d most gens sl fr live vs vf all clock va) (hm : Mod G W W') (hG : ∀ k, foot p vs vf k ∨ dfoot d va k → ¬ G k) (hF : ∀ k, k < w.heap.size → G k → F k) : PMem w F W' p d most gens sl fr live vs vf all clock va :=
  ⟨h.rep.mod hm (fun k hk => hG k (.inl hk)), h.inv, h.num, h.drep.mod hm (fun k hk => hG k (.inr hk)), h.sep, h.low, h.bel.trans hm (fun i hi hf => hF i hi hf)⟩
theorem PMem.lt (h : PMem w F W p d most gens sl fr live vs vf all clock va) {k : Nat} (hk : foot p vs vf k ∨ dfoot d va k) : k < W.heap.size := by
  rcases hk with hk | hk
  · exact h.rep.footlt hk
  · exact h.drep.footlt hk
theorem TMem.rebase (h : TMem w F W p d most gens sl fr live vs vf all clock va) : TMem W (fun k => foot p vs vf k ∨ dfoot d va k) W p d most gens sl fr live vs vf all clock va :=
  ⟨h.rep, h.inv, h.num, h.drep, h.sep, fun k hk _ => hk, Mod.refl _ _⟩
theorem TMem.unbase (h : TMem w F W p d most gens sl fr live vs vf all clock va) (h' : TMem W (fun k => foot p vs vf k ∨ dfoot d va k) W' p d most gens sl' fr' live' vs' vf' all' clock' va') : TMem w F W' p d most gens sl' fr' live' vs' vf' all' clock' va' :=
  ⟨h'.rep, h'.inv, h'.num, h'.drep, h'.sep, fun k hk hl => h.low k (h'.low k hk (Nat.lt_of_lt_of_le hl h.bel.size)) hl, h.bel.trans h'.bel (fun i hi hf => h.low i hf hi)⟩
theorem TMem.beside (h : TMem w F W p d most gens sl fr live vs vf all clock va) (hm : Mod G W W') (hG : ∀ k, foot p vs vf k ∨ dfoot d va k → ¬ G k) (hF : ∀ k, k < w.heap.size → G k → F k) : TMem w F W' p d most gens sl fr live vs vf all clock va :=
  ⟨h.rep.mod hm (fun k hk => hG k (.inl hk)), h.inv, h.num, h.drep.mod hm (fun k hk => hG k (.inr hk)), h.sep, h.low, h.bel.trans hm (fun i hi hf => hF i hi hf)⟩
theorem TMem.lt (h : TMem w F W p d most gens sl fr live vs vf all clock va) {k : Nat} (hk : foot p vs vf k ∨ dfoot d va k) : k < W.heap.size := by
  rcases hk with hk | hk
  · exact h.rep.footlt hk
  · exact h.drep.footlt hk
end

/-- Both pairs, apart. -/
def Dual (w : World) (a d b c : Nat) (s g s2 g2 : Int) (n1 n2 : Nat) (c1 c2 : Int) (W : World) : Prop :=
  ∃ sl fr vs vf all clock va sl2 fr2 vs2 vf2 all2 clock2 va2,
    PMem w (fun _ => False) W a d s g sl fr (liveN sl) vs vf all clock va ∧ Sim sl fr all clock ∧ all.length ≤ n1 ∧ clock ≤ c1 ∧
    TMem w (fun _ => False) W b c s2 g2 sl2 fr2 (liveN sl2) vs2 vf2 all2 clock2 va2 ∧ Sim sl2 fr2 all2 clock2 ∧ all2.length ≤ n2 ∧ clock2 ≤ c2 ∧
    ∀ k, (foot a vs vf k ∨ dfoot d va k) → ¬ (foot b vs2 vf2 k ∨ dfoot c va2 k)

section
variable {w W W' : World} {a d b c : Nat} {s g s2 g2 : Int} {n1 n2 n1' n2' : Nat} {c1 c2 c1' c2' : Int}
theorem Dual.keep (h : Dual w a d b c s g s2 g2 n1 n2 c1 c2 W) (hb : Below W.heap.size W W') : Dual w a d b c s g s2 g2 n1 n2 c1 c2 W' := by
  obtain ⟨sl, fr, vs, vf, all, clock, va, sl2, fr2, vs2, vf2, all2, clock2, va2, h1, h2, h3, h4, k1, k2, k3, k4, hx⟩ := h
  exact ⟨sl, fr, vs, vf, all, clock, va, sl2, fr2, vs2, vf2, all2, clock2, va2, h1.keep hb, h2, h3, h4, k1.keep hb, k2, k3, k4, hx⟩
theorem Dual.weaken (h : Dual w a d b c s g s2 g2 n1 n2 c1 c2 W) (e1 : n1 ≤ n1') (e2 : n2 ≤ n2') (e3 : c1 ≤ c1') (e4 : c2 ≤ c2') : Dual w a d b c s g s2 g2 n1' n2' c1' c2' W := by
  obtain ⟨sl, fr, vs, vf, all, clock, va, sl2, fr2, vs2, vf2, all2, clock2, va2, h1, h2, h3, h4, k1, k2, k3, k4, hx⟩ := h
  exact ⟨sl, fr, vs, vf, all, clock, va, sl2, fr2, vs2, vf2, all2, clock2, va2, h1, h2, by omega, by omega, k1, k2, by omega, by omega, hx⟩
theorem Dual.below (h : Dual w a d b c s g s2 g2 n1 n2 c1 c2 W) : Below w.heap.size w W := by
  obtain ⟨sl, fr, vs, vf, all, clock, va, sl2, fr2, vs2, vf2, all2, clock2, va2, h1, _⟩ := h
  exact h1.bel.ofEmpty
end

/-- A step of the first pair. -/
theorem dual_step (w wo W : World) (a d b c : Nat) (s g s2 g2 : Int) (n1 n2 : Nat) (c1 c2 : Int) (h : Dual w a d b c s g s2 g2 n1 n2 c1 c2 wo) (hb : Below wo.heap.size wo W) (hn : n1 ≤ 300000) (hc : c1 ≤ 300000000000) (o0 o1 o2 o3 : Int) :
    Calls Try.prog 22 #[.pointer (some ⟨a, 0, none⟩), .pointer (some ⟨d, 0, none⟩), .agg #[.int .i64 o0, .int .i64 o1, .int .i64 o2, .int .i64 o3]] W fun e w' => e = .returned (.bool true) ∧
      Dual w a d b c s g s2 g2 (n1 + 1) n2 (c1 + 1048576) c2 w' ∧ W.heap.size ≤ w'.heap.size ∧ ∀ q : Addr, wo.heap.size ≤ q.block → q.block < W.heap.size → w'.cell? q = W.cell? q := by
  obtain ⟨sl, fr, vs, vf, all, clock, va, sl2, fr2, vs2, vf2, all2, clock2, va2, h1, h2, h3, h4, k1, k2, k3, k4, hx⟩ := h
  have hold : ∀ k, (foot a vs vf k ∨ dfoot d va k) → k < wo.heap.size := fun k hk => h1.lt hk
  have hold2 : ∀ k, (foot b vs2 vf2 k ∨ dfoot c va2 k) → k < wo.heap.size := fun k hk => k1.lt hk
  have j1 := h1.keep hb
  have l1 := k1.keep hb
  refine (step_any W _ W a d s g all.length clock ⟨sl, fr, vs, vf, all, clock, va, j1.rebase, h2, Nat.le_refl _, Int.le_refl _⟩ (by omega) (by omega) o0 o1 o2 o3).mono ?_
  rintro e w' ⟨rfl, sl', fr', vs', vf', all', clock', va', m1, m2, m3, m4⟩
  refine ⟨rfl, ⟨sl', fr', vs', vf', all', clock', va', sl2, fr2, vs2, vf2, all2, clock2, va2, j1.unbase m1, m2, by omega, by omega, l1.beside m1.bel (fun k hk hf => hx k hf hk) (fun k hk hf => j1.low k hf hk), k2, k3, k4, ?_⟩, m1.bel.size, ?_⟩
  · intro k hk hk2
    exact hx k (m1.low k hk (Nat.lt_of_lt_of_le (hold2 k hk2) hb.size)) hk2
  · intro q hq hq2
    exact m1.bel.cell hq2 (fun hf => by have := hold _ hf; omega)
theorem dual_twin (w wo W : World) (a d b c : Nat) (s g s2 g2 : Int) (n1 n2 : Nat) (c1 c2 : Int) (h : Dual w a d b c s g s2 g2 n1 n2 c1 c2 wo) (hb : Below wo.heap.size wo W) (hn : n2 ≤ 300000) (hc : c2 ≤ 300000000000) (o0 o1 o2 o3 : Int) (hv0 : -9223372036854775808 ≤ o3) (hv1 : o3 ≤ 9223372036854775807) :
    Calls Try.prog 26 #[.pointer (some ⟨b, 0, none⟩), .pointer (some ⟨c, 0, none⟩), .agg #[.int .i64 o0, .int .i64 o1, .int .i64 o2, .int .i64 o3]] W fun e w' => e = .returned (.bool true) ∧
      Dual w a d b c s g s2 g2 n1 (n2 + 1) c1 (c2 + 1048576) w' ∧ W.heap.size ≤ w'.heap.size := by
  obtain ⟨sl, fr, vs, vf, all, clock, va, sl2, fr2, vs2, vf2, all2, clock2, va2, h1, h2, h3, h4, k1, k2, k3, k4, hx⟩ := h
  have hold : ∀ k, (foot a vs vf k ∨ dfoot d va k) → k < wo.heap.size := fun k hk => h1.lt hk
  have j1 := h1.keep hb
  have l1 := k1.keep hb
  refine (twin_any W _ W b c s2 g2 all2.length clock2 ⟨sl2, fr2, vs2, vf2, all2, clock2, va2, l1.rebase, k2, Nat.le_refl _, Int.le_refl _⟩ (by omega) (by omega) o0 o1 o2 o3 hv0 hv1).mono ?_
  rintro e w' ⟨rfl, sl', fr', vs', vf', all', clock', va', m1, m2, m3, m4⟩
  refine ⟨rfl, ⟨sl, fr, vs, vf, all, clock, va, sl', fr', vs', vf', all', clock', va', j1.beside m1.bel (fun k hk hf => hx k hk hf) (fun k hk hf => l1.low k hf hk), h2, h3, h4, l1.unbase m1, m2, by omega, by omega, ?_⟩, m1.bel.size⟩
  intro k hk hk2
  exact hx k hk (m1.low k hk2 (Nat.lt_of_lt_of_le (hold k hk) hb.size))

theorem dual_start (w : World) (s g s2 g2 : Int) (h1 : 1 ≤ s) (h2 : s ≤ 1048576) (h3 : 1 ≤ g) (h4 : g ≤ 1073741824) (k1 : 1 ≤ s2) (k2 : s2 ≤ 1048576) (k3 : 1 ≤ g2) (k4 : g2 ≤ 1073741824) :
    Dual w w.heap.size (w.heap.size + 1 + 1) (w.heap.size + 1) (w.heap.size + 1 + 1 + 1) s g s2 g2 0 0 0 0
      ((((w.alloc (.cells #[.int .i64 s, .int .i64 g, .slice none 0 0, .slice none 0 0, .int .i64 0] 61)).alloc (.cells #[.int .i64 s2, .int .i64 g2, .slice none 0 0, .slice none 0 0, .int .i64 0] 58)).alloc (.cells #[.int .i64 s, .int .i64 g, .slice none 0 0, .int .i64 0] 52)).alloc (.cells #[.int .i64 s2, .int .i64 g2, .slice none 0 0, .int .i64 0] 52)) := by
  obtain ⟨wa, hwa⟩ : ∃ wa, wa = w.alloc (.cells #[.int .i64 s, .int .i64 g, .slice none 0 0, .slice none 0 0, .int .i64 0] 61) := ⟨_, rfl⟩
  rw [← hwa]
  have za : wa.heap.size = w.heap.size + 1 := by rw [hwa]; simp
  have ba : Below w.heap.size w wa := by rw [hwa]; exact balloc (Below.refl _ _) _
  have rA : ARep wa 61 65 w.heap.size s g [] [] 0 (.slice none 0 0) (.slice none 0 0) := by rw [hwa]; exact empty_rep w _ _ s g
  obtain ⟨wb, hwb⟩ : ∃ wb, wb = wa.alloc (.cells #[.int .i64 s2, .int .i64 g2, .slice none 0 0, .slice none 0 0, .int .i64 0] 58) := ⟨_, rfl⟩
  rw [← hwb]
  have zb : wb.heap.size = w.heap.size + 1 + 1 := by rw [hwb]; simp [za]
  have bb : Below wa.heap.size wa wb := by rw [hwb]; exact balloc (Below.refl _ _) _
  have rB : ARep wb 58 81 (w.heap.size + 1) s2 g2 [] [] 0 (.slice none 0 0) (.slice none 0 0) := by rw [hwb, ← za]; exact empty_rep wa _ _ s2 g2
  obtain ⟨wc, hwc⟩ : ∃ wc, wc = wb.alloc (.cells #[.int .i64 s, .int .i64 g, .slice none 0 0, .int .i64 0] 52) := ⟨_, rfl⟩
  rw [← hwc]
  have zc : wc.heap.size = w.heap.size + 1 + 1 + 1 := by rw [hwc]; simp [zb]
  have bc : Below wb.heap.size wb wc := by rw [hwc]; exact balloc (Below.refl _ _) _
  have rD : DRep wc (w.heap.size + 1 + 1) s g [] 0 (.slice none 0 0) := by
    have := Blk.new wb 52 #[.int .i64 s, .int .i64 g, .slice none 0 0, .int .i64 0]
    rw [zb, ← hwc] at this
    exact ⟨this, World.ownsRow_nil _ _ _ _⟩
  obtain ⟨wd, hwd⟩ : ∃ wd, wd = wc.alloc (.cells #[.int .i64 s2, .int .i64 g2, .slice none 0 0, .int .i64 0] 52) := ⟨_, rfl⟩
  rw [← hwd]
  have bd : Below wc.heap.size wc wd := by rw [hwd]; exact balloc (Below.refl _ _) _
  have rC : DRep wd (w.heap.size + 1 + 1 + 1) s2 g2 [] 0 (.slice none 0 0) := by
    have := Blk.new wc 52 #[.int .i64 s2, .int .i64 g2, .slice none 0 0, .int .i64 0]
    rw [zc, ← hwd] at this
    exact ⟨this, World.ownsRow_nil _ _ _ _⟩
  have hbel : Below w.heap.size w wd := ba.trans ((bb.mono (by omega)).trans ((bc.mono (by omega)).trans (bd.mono (by omega))))
  have nf : ∀ p k, foot p (.slice none 0 0) (.slice none 0 0) k → k = p := by
    rintro p k (e | e | e)
    · exact e
    · cases e
    · cases e
  have nd : ∀ d k, dfoot d (.slice none 0 0) k → k = d := by
    rintro d k (e | e)
    · exact e
    · cases e
  refine ⟨[], [], _, _, [], 0, .slice none 0 0, [], [], _, _, [], 0, .slice none 0 0, ⟨((rA.keep bb).keep bc).keep bd, inv_empty s g h1 h2 h3 h4, Nums.nil, rD.keep bd, ?_, ?_, Mod.ofBelow hbel⟩, sim_empty, Nat.le_refl _, Int.le_refl _,
    ⟨(rB.keep bc).keep bd, inv_empty s2 g2 k1 k2 k3 k4, Rng.nil, rC, ?_, ?_, Mod.ofBelow hbel⟩, sim_empty, Nat.le_refl _, Int.le_refl _, ?_⟩
  · intro k hf hd
    have := nf _ _ hf
    have := nd _ _ hd
    omega
  · rintro k (hf | hd) hl
    · have := nf _ _ hf; omega
    · have := nd _ _ hd; omega
  · intro k hf hd
    have := nf _ _ hf
    have := nd _ _ hd
    omega
  · rintro k (hf | hd) hl
    · have := nf _ _ hf; omega
    · have := nd _ _ hd; omega
  · rintro k (hf | hd) (hf2 | hd2)
    · have := nf _ _ hf; have := nf _ _ hf2; omega
    · have := nf _ _ hf; have := nd _ _ hd2; omega
    · have := nd _ _ hd; have := nf _ _ hf2; omega
    · have := nd _ _ hd; have := nd _ _ hd2; omega
end Go.Proofs.Ytppoakomeaamhaa
