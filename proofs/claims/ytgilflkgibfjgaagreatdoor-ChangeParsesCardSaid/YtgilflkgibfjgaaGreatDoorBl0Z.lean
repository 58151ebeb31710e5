/- The document's reading of a batch, plainly; it tells what the program's reading tells. -/
import Derived.Test.YtgilflkgibfjgaaGreatDoorGf
import Derived.Test.YtgilflkgibfjgaaGreatDoorBc
namespace Go.Proofs.YtgilflkgibfjgaaGreatDoor
open Go.RowKit
set_option linter.unusedVariables false

/-- A literal. -/
def ltS (s : LS) : Vl × LS := (⟨(wantS 2 [] s).1.vk, (wantS 2 [] s).1.vn, (wantS 2 [] s).1.vt⟩, (wantS 2 [] s).2)
theorem ltS_ok : StepOk litP ltS := by
  intro c he
  have h1 := want_tk0 (k := 2) he (by decide)
  unfold ltS
  cases ho : tk 2 [] c with
  | bad a e =>
    rw [ho] at h1
    simp only at h1
    rw [lit_bad ho, h1]
  | ok t c1 =>
    rw [ho] at h1
    obtain ⟨h1, he1⟩ := h1
    rw [lit_ok ho, h1]
    exact ⟨rfl, he1⟩
/-- The sign. -/
def sgS (s : LS) : LS := (wantS 3 (if isS 3 [43] s = true then [43] else [45]) s).2
/-- A change, behind what its sign and its name told. -/
def cg3 (b : Bool) (p : Int) (x : List UInt8) (G : LS × List Vl) : ChP × LS := ((⟨b, x, G.2⟩, p), (wantS 3 [41] G.1).2)
def cg2 (b : Bool) (p : Int) (x : List UInt8) (X : Tok × LS) : ChP × LS := cg3 b p x (gloop ltS (meas X.2 + 1) X.2 [])
def cg1 (b : Bool) (p : Int) (X : Tok × LS) : ChP × LS := cg2 b p X.1.x (wantS 3 [40] X.2)
def plS : LS → Int
  | .bad _ _ => 0
  | .ok c => (headT c).p
def cgS (s : LS) : ChP × LS := cg1 (isS 3 [43] s) (plS s) (wantS 1 [] (sgS s))
theorem cg1_list (b : Bool) (p : Int) (X : Tok × LS) : cg1 b p X = ((⟨b, X.1.x, (listS ltS X.2).1⟩, p), (listS ltS X.2).2) := rfl
theorem sgS_ok {c : List Tok} (he : Ended c) : match tk 3 sgnX c with
    | .bad a e => sgS (.ok c) = .bad a e
    | .ok t r => sgS (.ok c) = .ok r ∧ isS 3 [43] (.ok c) = decide (t.x = [43]) ∧ plS (.ok c) = t.p ∧ Ended r := by
  obtain ⟨t, r, rfl⟩ := he.some
  by_cases hk : t.k = 3
  · by_cases h1 : t.x = [43]
    · have hi : isS 3 [43] (.ok (t :: r)) = true := by simp [isS, isT, headT, hk, h1]
      have hu : tk 3 sgnX (t :: r) = .ok t r := by simp [tk, hk, h1]
      rw [hu]
      unfold sgS
      rw [if_pos hi]
      refine ⟨by simp [wantS, wantT, headT, hk, h1], by rw [hi, h1]; rfl, rfl, he.cons (by omega)⟩
    · have hi : isS 3 [43] (.ok (t :: r)) = false := by simp [isS, isT, headT, hk, h1]
      unfold sgS
      rw [if_neg (by rw [hi]; decide), hi]
      by_cases h2 : t.x = [45]
      · have hu : tk 3 sgnX (t :: r) = .ok t r := by simp [tk, hk, h2]
        rw [hu]
        refine ⟨by simp [wantS, wantT, headT, hk, h2], by rw [h2]; rfl, rfl, he.cons (by omega)⟩
      · have hu : tk 3 sgnX (t :: r) = .bad t.p 80 := by simp [tk, hk, h1, h2]
        rw [hu]
        simp [wantS, wantT, headT, hk, h2]
  · have hi : isS 3 [43] (.ok (t :: r)) = false := by simp [isS, isT, headT, hk]
    have hu : tk 3 sgnX (t :: r) = .bad t.p 80 := by simp [tk, hk]
    unfold sgS
    rw [if_neg (by rw [hi]; decide), hu]
    simp [wantS, wantT, headT, hk]
theorem cgS_ok : StepOk chgP cgS := by
  intro c he
  have h1 := sgS_ok he
  unfold cgS
  cases ho : tk 3 sgnX c with
  | bad a e =>
    rw [ho] at h1
    simp only at h1
    rw [chg_bad1 ho, h1]
    show (cg1 _ _ (tok0, .bad a e)).2 = _
    unfold cg1 cg2 cg3
    simp only [wantS, gloop_bad]
  | ok s c1 =>
    rw [ho] at h1
    obtain ⟨h1, h2, h3, he1⟩ := h1
    rw [h1, h2, h3]
    have h4 := want_tk0 (k := 1) he1 (by decide)
    cases hn : tk 1 [] c1 with
    | bad a e =>
      rw [hn] at h4
      simp only at h4
      rw [chg_bad2 ho hn, h4]
      unfold cg1 cg2 cg3
      simp only [wantS, gloop_bad]
    | ok t c2 =>
      rw [hn] at h4
      obtain ⟨h4, he2⟩ := h4
      rw [h4, cg1_list]
      have h5 := listS_ok ltS_ok lit_less c2 he2
      cases hl : listP litP c2 with
      | bad a e =>
        rw [hl] at h5
        rw [chg_bad3 ho hn hl]
        exact h5
      | ok l c3 =>
        rw [hl] at h5
        obtain ⟨h5, he3⟩ := h5
        rw [chg_ok ho hn hl]
        simp only [h5]
        exact ⟨rfl, he3⟩

/-- The batch's rounds. -/
def moreB (n : Nat) : LS → Bool × LS
  | .bad a e => (false, .bad a e)
  | .ok c => if n = 0 then (!endT c, .ok c) else moreS n (.ok c)
def hloop : Nat → LS → List ChP → LS × List ChP
  | 0, s, ys => (s, ys)
  | f + 1, s, ys => if (moreB ys.length s).1 = true then hloop f (cgS (moreB ys.length s).2).2 (ys ++ [(cgS (moreB ys.length s).2).1]) else (s, ys)
theorem hloop_end (f : Nat) {s : LS} {ys : List ChP} (h : (moreB ys.length s).1 = false) : hloop f s ys = (s, ys) := by
  cases f with
  | zero => rfl
  | succ f => unfold hloop; rw [if_neg (by rw [h]; decide)]
theorem hloop_go (f : Nat) {s : LS} {ys : List ChP} (h : (moreB ys.length s).1 = true) : hloop (f + 1) s ys = hloop f (cgS (moreB ys.length s).2).2 (ys ++ [(cgS (moreB ys.length s).2).1]) := by
  rw [hloop, if_pos h]
theorem moreB_pos {n : Nat} (h : n ≠ 0) (s : LS) : moreB n s = moreS n s := by
  cases s with
  | bad a e => rfl
  | ok c => show (if n = 0 then _ else _) = _; rw [if_neg h]
theorem hloop_gloop : ∀ (f : Nat) (s : LS) (ys : List ChP), ys ≠ [] → hloop f s ys = gloop cgS f s ys
  | 0, _, _, _ => rfl
  | f + 1, s, ys, h => by
    have hn : ys.length ≠ 0 := fun e => h (List.eq_nil_of_length_eq_zero e)
    unfold hloop gloop
    rw [moreB_pos hn]
    split
    · exact hloop_gloop f _ _ (by simp)
    · rfl
theorem hloop_bad (f : Nat) (a e : Int) (ys : List ChP) : hloop f (.bad a e) ys = (.bad a e, ys) := hloop_end f rfl
theorem hloop_ok (f : Nat) (c : List Tok) (he : Ended c) (hf : c.length + 2 ≤ f) : match chgsP c with
    | .bad a e => (hloop f (.ok c) []).1 = .bad a e
    | .ok xs c' => hloop f (.ok c) [] = (.ok c', xs) ∧ Ended c' := by
  unfold chgsP
  by_cases h0 : endT c = true
  · rw [if_pos h0]
    refine ⟨hloop_end f ?_, he⟩
    show (!endT c) = false
    rw [h0]
    rfl
  · rw [if_neg h0]
    have h0' : endT c = false := by simpa using h0
    obtain ⟨f, rfl⟩ : ∃ g, f = g + 1 := ⟨f - 1, by omega⟩
    have hm : moreB ([] : List ChP).length (.ok c) = (true, .ok c) := by
      show (!endT c, LS.ok c) = _
      rw [h0']
      rfl
    have hg := hloop_go f (s := .ok c) (ys := []) (by rw [hm])
    rw [hm] at hg
    simp only [List.nil_append] at hg
    rw [hg]
    have hst := cgS_ok c he
    cases hp : chgP c with
    | bad a e =>
      rw [hp] at hst
      simp only at hst
      rw [some_bad hp, hst, hloop_bad]
    | ok x c1 =>
      rw [hp] at hst
      obtain ⟨h1, h2⟩ := hst
      have h3 := chg_less _ _ _ hp
      have h4 := gloop_rest cgS_ok chg_less f c1 [x] (by simp) h2 (by omega)
      have h5 := hloop_gloop f (.ok c1) [x] (by simp)
      rw [← h5] at h4
      rw [some_ok hp, h1]
      cases hr : restP chgP [x] c1 with
      | bad a e =>
        rw [hr] at h4
        exact h4
      | ok xs c' =>
        rw [hr] at h4
        exact h4

def outB (s : LS) (l : List ChP) : PR (List Chg) := match s with
  | .bad a e => .bad a e
  | .ok _ => .ok (l.map (·.1)) []
def ovS (l : List ChP) (s : LS) : LS := if 0 ≤ overP l then failS (overP l) 100 s else s
def b1 (l : List ChP) (X : Tok × LS) : PR (List Chg) := outB (ovS l X.2) l
def b0 (G : LS × List ChP) : PR (List Chg) := b1 G.2 (wantS 0 [] G.1)
def refB (s : LS) : PR (List Chg) := b0 (hloop (meas s + 1) s [])
theorem ovS_bad (l : List ChP) (a e : Int) : ovS l (.bad a e) = .bad a e := by
  unfold ovS
  split <;> rfl
theorem b0_bad (a e : Int) (l : List ChP) : b0 (.bad a e, l) = .bad a e := by
  show outB (ovS l (.bad a e)) l = _
  rw [ovS_bad]
  rfl
theorem refB_bad (a e : Int) : refB (.bad a e) = .bad a e := by
  unfold refB
  rw [hloop_bad]
  exact b0_bad a e []
theorem refB_ok {ts : List Tok} (h : Ended ts) : refB (.ok ts) = batchT ts := by
  have h1 := hloop_ok (meas (.ok ts) + 1) ts h (by simp [meas])
  unfold refB
  cases hc : chgsP ts with
  | bad a e =>
    rw [hc] at h1
    simp only at h1
    rw [batchT_bad1 hc]
    obtain ⟨l, hl⟩ : ∃ l, hloop (meas (.ok ts) + 1) (.ok ts) [] = (.bad a e, l) := ⟨_, Prod.ext h1 rfl⟩
    rw [hl]
    exact b0_bad a e l
  | ok l c2 =>
    rw [hc] at h1
    obtain ⟨h1, he2⟩ := h1
    rw [h1]
    show outB (ovS l (wantS 0 [] (.ok c2)).2) l = _
    obtain ⟨u, r, rfl⟩ := he2.some
    by_cases ht : u.k = 0
    · have e1 : tk 0 [] (u :: r) = .ok u (u :: r) := by simp [tk, ht]
      have e2 : (wantS 0 [] (.ok (u :: r))).2 = .ok r := by simp [wantS, wantT, headT, ht]
      rw [batchT_ok hc e1, e2]
      unfold chkB ovS
      split
      · rfl
      · rfl
    · have e1 : tk 0 [] (u :: r) = .bad u.p 80 := by simp [tk, ht]
      have e2 : (wantS 0 [] (.ok (u :: r))).2 = .bad u.p 80 := by simp [wantS, wantT, headT, ht]
      rw [batchT_bad2 hc e1, e2, ovS_bad]
      rfl
end Go.Proofs.YtgilflkgibfjgaaGreatDoor
