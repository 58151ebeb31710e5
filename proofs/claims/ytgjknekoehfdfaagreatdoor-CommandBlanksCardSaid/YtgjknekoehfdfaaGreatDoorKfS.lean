/- The document's reading of a declaration, plainly; it tells what the program's reading tells. What the document's Parse of a declaration keeps in memory; its end, plainly. -/
import Derived.Test.YtgjknekoehfdfaaGreatDoorGf
import Derived.Test.YtgjknekoehfdfaaGreatDoorKa
import Derived.Test.YtgjknekoehfdfaaGreatDoorGg
import Derived.Test.YtgjknekoehfdfaaGreatDoorKd
namespace Go.Proofs.YtgjknekoehfdfaaGreatDoor
open Go.RowKit
set_option linter.unusedVariables false

abbrev intX : List UInt8 := [105, 110, 116]
abbrev textX : List UInt8 := [116, 101, 120, 116]
/-- A column, by what its name's Want told. -/
def kdS (s : LS) : Int × LS := if isS 1 textX s = true then (2, (wantS 1 textX s).2) else (1, (wantS 1 intX s).2)
def clS (s : LS) : ClP × LS := (((wantS 1 [] s).1.x, (kdS (wantS 1 [] s).2).1, (wantS 1 [] s).1.p), (kdS (wantS 1 [] s).2).2)
theorem clS_ok : StepOk colP clS := by
  intro c he
  have h1 := want_tk0 (k := 1) he (by decide)
  unfold clS
  cases ho : tk 1 [] c with
  | bad a e =>
    rw [ho] at h1
    simp only at h1
    rw [col_bad1 ho, h1]
    rfl
  | ok t c1 =>
    rw [ho] at h1
    obtain ⟨h1, he1⟩ := h1
    rw [h1]
    simp only
    obtain ⟨u, r, rfl⟩ := he1.some
    by_cases hk : u.k = 1
    · by_cases ht : u.x = textX
      · have hu : tk 1 [intX, textX] (u :: r) = .ok u r := by simp [tk, hk, ht]
        rw [col_ok ho hu]
        have hi : isS 1 textX (.ok (u :: r)) = true := by simp [isS, isT, headT, hk, ht]
        unfold kdS
        rw [if_pos hi]
        refine ⟨?_, he1.cons (by omega)⟩
        simp [wantS, wantT, headT, hk, ht]
      · have hi : isS 1 textX (.ok (u :: r)) = false := by simp [isS, isT, headT, hk, ht]
        unfold kdS
        rw [if_neg (by rw [hi]; decide)]
        by_cases hn : u.x = intX
        · have hu : tk 1 [intX, textX] (u :: r) = .ok u r := by simp [tk, hk, hn]
          rw [col_ok ho hu]
          refine ⟨?_, he1.cons (by omega)⟩
          simp [wantS, wantT, headT, hk, hn]
        · have hu : tk 1 [intX, textX] (u :: r) = .bad u.p 80 := by simp [tk, hk, hn, ht]
          rw [col_bad2 ho hu]
          simp [wantS, wantT, headT, hk, hn]
    · have hi : isS 1 textX (.ok (u :: r)) = false := by simp [isS, isT, headT, hk]
      unfold kdS
      rw [if_neg (by rw [hi]; decide)]
      have hu : tk 1 [intX, textX] (u :: r) = .bad u.p 80 := by simp [tk, hk]
      rw [col_bad2 ho hu]
      simp [wantS, wantT, headT, hk]
/-- The names that stand twice. -/
def twS (l : List ClP) : Nat → Nat → LS → LS
  | 0, _, s => s
  | m + 1, k, s => twS l m (k + 1) (match l[k]? with
    | some h => if h.1 ∈ (l.take k).map (·.1) then failS h.2.2 82 s else s
    | none => s)
def manyS (l : List ClP) (s : LS) : LS := match l[5]? with
  | some c => failS c.2.2 81 s
  | none => s
def outR (s : LS) (r : Rln) : PR Rln := match s with
  | .bad a e => .bad a e
  | .ok _ => .ok r []
def sEnd (l : List ClP) (s : LS) : LS := twS l l.length 0 (manyS l s)
def r3 (nm : List UInt8) (l : List ClP) (X : Tok × LS) : PR Rln := outR (sEnd l X.2) (rlnOf nm l)
def r2 (nm : List UInt8) (l : List ClP) (X : Tok × LS) : PR Rln := r3 nm l (wantS 0 [] X.2)
def r1 (nm : List UInt8) (G : LS × List ClP) : PR Rln := r2 nm G.2 (wantS 3 [41] G.1)
def r0 (nm : List UInt8) (X : Tok × LS) : PR Rln := r1 nm (gloop clS (meas X.2 + 1) X.2 [])
def rq (X : Tok × LS) : PR Rln := r0 X.1.x (wantS 3 [40] X.2)
def refS (s : LS) : PR Rln := rq (wantS 1 [] s)

theorem twS_bad (l : List ClP) (a e : Int) : ∀ (m k : Nat), twS l m k (.bad a e) = .bad a e
  | 0, _ => rfl
  | m + 1, k => by
    unfold twS
    cases l[k]? with
    | none => exact twS_bad l a e m (k + 1)
    | some h =>
      simp only
      split <;> exact twS_bad l a e m (k + 1)
theorem manyS_bad (l : List ClP) (a e : Int) : manyS l (.bad a e) = .bad a e := by
  unfold manyS
  cases l[5]? <;> rfl
theorem sEnd_bad (l : List ClP) (a e : Int) : sEnd l (.bad a e) = .bad a e := by
  unfold sEnd
  rw [manyS_bad, twS_bad]
theorem r1_bad (nm : List UInt8) (a e : Int) (l : List ClP) : r1 nm (.bad a e, l) = .bad a e := by
  show outR (sEnd l (.bad a e)) _ = _
  rw [sEnd_bad]
  rfl
theorem r0_bad (nm : List UInt8) (t : Tok) (a e : Int) : r0 nm (t, .bad a e) = .bad a e := by
  unfold r0
  rw [gloop_bad]
  exact r1_bad nm a e []
theorem refS_bad (a e : Int) : refS (.bad a e) = .bad a e := r0_bad tok0.x tok0 a e
theorem twS_run (l : List ClP) (c : List Tok) : ∀ (m k : Nat), k + m = l.length →
    twS l m k (.ok c) = .ok c ∧ againG (((l.map clC).take k).map (·.x)) ((l.map clC).drop k) k = -1 ∨ ∃ (j : Nat) (h : ClP), l[j]? = some h ∧ againG (((l.map clC).take k).map (·.x)) ((l.map clC).drop k) k = j ∧ twS l m k (.ok c) = .bad h.2.2 82
  | 0, k, hk => by
    have : (l.map clC).drop k = [] := List.drop_of_length_le (by simp; omega)
    rw [this]
    exact .inl ⟨rfl, rfl⟩
  | m + 1, k, hk => by
    obtain ⟨h, hh⟩ : ∃ h, l[k]? = some h := ⟨l[k]'(by omega), List.getElem?_eq_getElem (by omega)⟩
    have hx : (l.map clC)[k]? = some (clC h) := by simp [hh]
    have hn : ((l.map clC).take k).map (·.x) = (l.take k).map (·.1) := by
      rw [← List.map_take, List.map_map]
      rfl
    unfold twS
    rw [hh]
    simp only
    by_cases hm : h.1 ∈ (l.take k).map (·.1)
    · rw [again_hit hx (by rw [hn]; exact hm), if_pos hm]
      refine .inr ⟨k, h, hh, rfl, ?_⟩
      simp only [failS]
      exact twS_bad l _ _ m (k + 1)
    · rw [again_step hx (by rw [hn]; exact hm), if_neg hm]
      exact twS_run l c m (k + 1) (by omega)
theorem sEnd_ok (nm : List UInt8) (l : List ClP) (c : List Tok) : outR (sEnd l (.ok c)) (rlnOf nm l) = chkS nm l := by
  unfold sEnd manyS
  cases h5 : l[5]? with
  | some a =>
    rw [chkS_many h5]
    simp only [failS]
    rw [twS_bad]
    rfl
  | none =>
    simp only
    rcases twS_run l c l.length 0 (by omega) with ⟨h1, h2⟩ | ⟨j, h, h1, h2, h3⟩
    · rw [h1, chkS_ok h5 h2]
      rfl
    · rw [h3, chkS_again h5 h2 h1]
      rfl
theorem refS_ok {ts : List Tok} (h : Ended ts) : refS (.ok ts) = schT ts := by
  have h1 := want_tk0 (k := 1) h (by decide)
  unfold refS rq
  cases ho : tk 1 [] ts with
  | bad a e =>
    rw [ho] at h1
    simp only at h1
    rw [schT_bad1 ho, h1]
    exact r0_bad _ _ a e
  | ok t c1 =>
    rw [ho] at h1
    obtain ⟨h1, he1⟩ := h1
    rw [h1]
    have h2 := listS_ok clS_ok col_less c1 he1
    simp only
    cases h3 : listP colP c1 with
    | bad a e =>
      rw [h3] at h2
      rw [schT_bad2 ho h3]
      simp only at h2
      unfold listS at h2
      simp only at h2
      show outR (sEnd _ (wantS 0 [] (wantS 3 [41] (gloop clS (meas (wantS 3 [40] (.ok c1)).2 + 1) (wantS 3 [40] (.ok c1)).2 []).1).2).2) _ = _
      rw [h2]
      show outR (sEnd _ (.bad a e)) _ = _
      rw [sEnd_bad]
      rfl
    | ok l c2 =>
      rw [h3] at h2
      obtain ⟨h2, he2⟩ := h2
      unfold listS at h2
      simp only [Prod.mk.injEq] at h2
      obtain ⟨h2a, h2b⟩ := h2
      show outR (sEnd (gloop clS (meas (wantS 3 [40] (.ok c1)).2 + 1) (wantS 3 [40] (.ok c1)).2 []).2 (wantS 0 [] (wantS 3 [41] (gloop clS (meas (wantS 3 [40] (.ok c1)).2 + 1) (wantS 3 [40] (.ok c1)).2 []).1).2).2) (rlnOf t.x (gloop clS (meas (wantS 3 [40] (.ok c1)).2 + 1) (wantS 3 [40] (.ok c1)).2 []).2) = _
      rw [h2a, h2b]
      obtain ⟨u, r, rfl⟩ := he2.some
      by_cases ht : u.k = 0
      · have e1 : tk 0 [] (u :: r) = .ok u (u :: r) := by simp [tk, ht]
        have e2 : (wantS 0 [] (.ok (u :: r))).2 = .ok r := by simp [wantS, wantT, headT, ht]
        rw [schT_ok ho h3 e1, e2]
        exact sEnd_ok t.x l r
      · have e1 : tk 0 [] (u :: r) = .bad u.p 80 := by simp [tk, ht]
        have e2 : (wantS 0 [] (.ok (u :: r))).2 = .bad u.p 80 := by simp [wantS, wantT, headT, ht]
        rw [schT_bad3 ho h3 e1, e2, sEnd_bad]
        rfl
end Go.Proofs.YtgjknekoehfdfaaGreatDoor
namespace Go.Proofs.YtgjknekoehfdfaaGreatDoor
open Go.RowKit
set_option linter.unusedVariables false

/-- The declaration that is being read, the places, and the result's block. -/
structure RC (w0 w : World) (rb : Nat) (nm : List UInt8) (cv pv : Value) (cs : List Col) (ps : List Int) : Prop where
  q : Blk w rb 37 #[.string ⟨nm.toArray⟩, cv]
  r : Blk w w0.heap.size 37 #[.string ⟨#[]⟩, .slice none 0 0]
  cols : ColsOwn w0.heap.size w cv cs
  pl : IntsO w0.heap.size w pv ps
  below : Below w0.heap.size w0 w
  ne : w0.heap.size < rb
section
variable {w0 w w' w1 : World} {rb : Nat} {nm : List UInt8} {cv pv : Value} {cs : List Col} {ps : List Int}
theorem RC.mt {Ts : List TypeId} (h : RC w0 w rb nm cv pv cs ps) (hm : MT w0.heap.size Ts w w') (h1 : 37 ∉ Ts) (h2 : 69 ∉ Ts) (h3 : 3 ∉ Ts) : RC w0 w' rb nm cv pv cs ps :=
  ⟨h.q.mt hm h1, h.r.mt hm h1, hm.ownsRow h.cols h2, hm.ownsRow h.pl h3, h.below.trans (hm.below h.below.size), h.ne⟩
theorem RC.keep (h : RC w0 w rb nm cv pv cs ps) (hb : Below w.heap.size w w') : RC w0 w' rb nm cv pv cs ps := h.mt (MT.ofBelow (Ts := []) hb) (by simp) (by simp) (by simp)
end

end Go.Proofs.YtgjknekoehfdfaaGreatDoor
