/- What change.Parse tells, plainly. What is read of a batch is right; a batch's text is read back: plainly. -/
import Derived.Test.YtgjknekoehfdfaaGreatDoorCh0ZS
import Derived.Test.YtgjknekoehfdfaaGreatDoorGa
import Derived.Test.YtgjknekoehfdfaaGreatDoorJq1ZS
import Derived.Test.YtgjknekoehfdfaaGreatDoorJyS
namespace Go.Proofs.YtgjknekoehfdfaaGreatDoor
open Go.RowKit
set_option linter.unusedVariables false

/-- A change and its sign's place. -/
abbrev ChP := Chg × Int
def litP (c : List Tok) : PR Vl := match tk 2 [] c with
  | .bad a e => .bad a e
  | .ok t c1 => .ok ⟨t.vk, t.vn, t.vt⟩ c1
abbrev sgnX : List (List UInt8) := [[43], [45]]
def chgOf (s t : Tok) (l : List Vl) : ChP := (⟨decide (s.x = [43]), t.x, l⟩, s.p)
def chgP (c : List Tok) : PR ChP := match tk 3 sgnX c with
  | .bad a e => .bad a e
  | .ok s c1 => match tk 1 [] c1 with
    | .bad a e => .bad a e
    | .ok t c2 => match listP litP c2 with
      | .bad a e => .bad a e
      | .ok l c3 => .ok (chgOf s t l) c3
theorem lit_bad {c : List Tok} {a e : Int} (h : tk 2 [] c = .bad a e) : litP c = .bad a e := by
  unfold litP
  rw [h]
theorem lit_ok {c c1 : List Tok} {t : Tok} (h : tk 2 [] c = .ok t c1) : litP c = .ok ⟨t.vk, t.vn, t.vt⟩ c1 := by
  unfold litP
  rw [h]
theorem chg_bad1 {c : List Tok} {a e : Int} (h : tk 3 sgnX c = .bad a e) : chgP c = .bad a e := by
  unfold chgP
  rw [h]
theorem chg_bad2 {c c1 : List Tok} {s : Tok} {a e : Int} (h : tk 3 sgnX c = .ok s c1) (h2 : tk 1 [] c1 = .bad a e) : chgP c = .bad a e := by
  unfold chgP
  rw [h]
  simp only [h2]
theorem chg_bad3 {c c1 c2 : List Tok} {s t : Tok} {a e : Int} (h : tk 3 sgnX c = .ok s c1) (h2 : tk 1 [] c1 = .ok t c2) (h3 : listP litP c2 = .bad a e) : chgP c = .bad a e := by
  unfold chgP
  rw [h]
  simp only [h2, h3]
theorem chg_ok {c c1 c2 c3 : List Tok} {s t : Tok} {l : List Vl} (h : tk 3 sgnX c = .ok s c1) (h2 : tk 1 [] c1 = .ok t c2) (h3 : listP litP c2 = .ok l c3) : chgP c = .ok (chgOf s t l) c3 := by
  unfold chgP
  rw [h]
  simp only [h2, h3]
theorem lit_less : Less litP := by
  intro ts x ts' h
  cases h1 : tk 2 [] ts with
  | bad a e => rw [lit_bad h1] at h; cases h
  | ok t c1 =>
    rw [lit_ok h1] at h
    have h2 := tk_less _ _ _ _ _ h1
    simp only [PR.ok.injEq] at h
    rw [← h.2]
    exact h2
theorem chg_less : Less chgP := by
  intro ts x ts' h
  cases h1 : tk 3 sgnX ts with
  | bad a e => rw [chg_bad1 h1] at h; cases h
  | ok s c1 =>
    have g1 := tk_less _ _ _ _ _ h1
    cases h2 : tk 1 [] c1 with
    | bad a e => rw [chg_bad2 h1 h2] at h; cases h
    | ok t c2 =>
      have g2 := tk_less _ _ _ _ _ h2
      cases h3 : listP litP c2 with
      | bad a e => rw [chg_bad3 h1 h2 h3] at h; cases h
      | ok l c3 =>
        have g3 := list_less lit_less _ _ _ h3
        rw [chg_ok h1 h2 h3] at h
        simp only [PR.ok.injEq] at h
        rw [← h.2]
        omega

/-- The line's first token is its end. -/
def endT : List Tok → Bool
  | [] => true
  | t :: _ => decide (t.k = 0)
/-- The sign of the change that is too many; -1 if none. -/
def overP (l : List ChP) : Int := match l[256]? with
  | some z => z.2
  | none => -1
def chkB (l : List ChP) : PR (List Chg) := if 0 ≤ overP l then .bad (overP l) 100 else .ok (l.map (·.1)) []
def chgsP (c : List Tok) : PR (List ChP) := if endT c = true then .ok [] c else someP chgP c
def batchT (c : List Tok) : PR (List Chg) := match chgsP c with
  | .bad a e => .bad a e
  | .ok l c1 => match tk 0 [] c1 with
    | .bad a e => .bad a e
    | .ok _ _ => chkB l
theorem batchT_bad1 {c : List Tok} {a e : Int} (h : chgsP c = .bad a e) : batchT c = .bad a e := by
  unfold batchT
  rw [h]
theorem batchT_bad2 {c c1 : List Tok} {l : List ChP} {a e : Int} (h : chgsP c = .ok l c1) (h2 : tk 0 [] c1 = .bad a e) : batchT c = .bad a e := by
  unfold batchT
  rw [h]
  simp only [h2]
theorem batchT_ok {c c1 c2 : List Tok} {l : List ChP} {u : Tok} (h : chgsP c = .ok l c1) (h2 : tk 0 [] c1 = .ok u c2) : batchT c = chkB l := by
  unfold batchT
  rw [h]
  simp only [h2]
theorem overB_snoc (l : List ChP) (z : ChP) : overP (l ++ [z]) = if l.length = 256 then z.2 else overP l := by
  unfold overP
  by_cases h : l.length = 256
  · rw [if_pos h, List.getElem?_append_right (by omega), h]
    rfl
  · rw [if_neg h]
    by_cases h2 : 256 < l.length
    · rw [List.getElem?_append_left h2]
    · rw [List.getElem?_eq_none (by simp; omega), List.getElem?_eq_none (by omega)]
theorem overB_few {l : List ChP} (h : l.length ≤ 256) : overP l = -1 := by
  unfold overP
  rw [List.getElem?_eq_none h]

/-- A change that was read. -/
def ChgR (N : Nat) (z : ChP) : Prop := isNameB z.1.rel = true ∧ (∀ u ∈ z.1.row, validB u.k u.n u.t = true ∧ RangeV u) ∧ 0 ≤ z.2 ∧ z.2 ≤ N
end Go.Proofs.YtgjknekoehfdfaaGreatDoor
namespace Go.Proofs.YtgjknekoehfdfaaGreatDoor
open Go.RowKit
set_option linter.unusedVariables false

theorem lit_sure (N : Nat) : SureQ N litP (fun u => validB u.k u.n u.t = true ∧ RangeV u) := by
  intro c h
  have h1 := tk_sureQ N 2 [] c h
  cases ho : tk 2 [] c with
  | bad a e => rw [ho] at h1; rw [lit_bad ho]; exact h1
  | ok t c1 =>
    rw [ho] at h1
    rw [lit_ok ho]
    have hl := h1.1.1.1.2 h1.1.2
    exact ⟨⟨hl.1, hl.2⟩, h1.2⟩
theorem chg_sure (N : Nat) : SureQ N chgP (ChgR N) := by
  intro c h
  have h1 := tk_sureQ N 3 sgnX c h
  cases ho : tk 3 sgnX c with
  | bad a e => rw [ho] at h1; rw [chg_bad1 ho]; exact h1
  | ok s c1 =>
    rw [ho] at h1
    have h2 := tk_sureQ N 1 [] c1 h1.2
    cases hn : tk 1 [] c1 with
    | bad a e => rw [hn] at h2; rw [chg_bad2 ho hn]; exact h2
    | ok t c2 =>
      rw [hn] at h2
      have h3 := list_sureQ (lit_sure N) c2 h2.2
      cases hl : listP litP c2 with
      | bad a e => rw [hl] at h3; rw [chg_bad3 ho hn hl]; exact h3
      | ok l c3 =>
        rw [hl] at h3
        rw [chg_ok ho hn hl]
        exact ⟨⟨h2.1.1.1.1 h2.1.2, h3.1, h1.1.1.2⟩, h3.2⟩
theorem chgs_sure (N : Nat) : SureQ N chgsP (fun l => ∀ z ∈ l, ChgR N z) := by
  intro c h
  unfold chgsP
  split
  · exact ⟨by simp, h⟩
  · exact some_sureQ (chg_sure N) c h
theorem overB_range {N : Nat} {l : List ChP} (h : ∀ z ∈ l, ChgR N z) (hl : 256 < l.length) : 0 ≤ overP l ∧ overP l ≤ N := by
  unfold overP
  obtain ⟨z, hz⟩ : ∃ z, l[256]? = some z := ⟨_, List.getElem?_eq_getElem hl⟩
  rw [hz]
  exact ⟨(h z (List.mem_of_getElem? hz)).2.2.1, (h z (List.mem_of_getElem? hz)).2.2.2⟩
theorem chkB_few {l : List ChP} (h : l.length ≤ 256) : chkB l = .ok (l.map (·.1)) [] := by
  unfold chkB
  rw [overB_few h]
  rfl
theorem chkB_many {N : Nat} {l : List ChP} (h : ∀ z ∈ l, ChgR N z) (hl : 256 < l.length) : chkB l = .bad (overP l) 100 := by
  unfold chkB
  rw [if_pos (overB_range h hl).1]
/-- What Parse of a batch tells, of a line's tokens. -/
theorem batchT_sure {N : Nat} {ts : List Tok} (h : TInvQ N ts) : match batchT ts with
    | .bad a e => 0 ≤ a ∧ a ≤ N ∧ e ≠ 0
    | .ok b _ => b.length ≤ 256 ∧ ∀ c ∈ b, isNameB c.rel = true ∧ ∀ u ∈ c.row, validB u.k u.n u.t = true ∧ RangeV u := by
  have h1 := chgs_sure N ts h
  cases hc : chgsP ts with
  | bad a e => rw [hc] at h1; rw [batchT_bad1 hc]; exact h1
  | ok l c1 =>
    rw [hc] at h1
    have h2 := tk_sureQ N 0 [] c1 h1.2
    cases ht : tk 0 [] c1 with
    | bad a e => rw [ht] at h2; rw [batchT_bad2 hc ht]; exact h2
    | ok u c2 =>
      rw [batchT_ok hc ht]
      by_cases hl : 256 < l.length
      · rw [chkB_many h1.1 hl]
        have := overB_range h1.1 hl
        exact ⟨this.1, this.2, by decide⟩
      · rw [chkB_few (by omega)]
        refine ⟨by rw [List.length_map]; omega, fun c hcm => ?_⟩
        obtain ⟨z, hz, rfl⟩ := List.mem_map.1 hcm
        have := h1.1 z hz
        exact ⟨this.1, this.2.1⟩

end Go.Proofs.YtgjknekoehfdfaaGreatDoor
