/- A declaration's text is cut into tokens, and read as the declaration: plainly. What is read is right, and a fault's place stands in the line: plainly. -/
import Derived.Test.YtgjknekoehfdfaaGreatDoorKa
import Derived.Test.YtgjknekoehfdfaaGreatDoorLf
import Derived.Test.YtgjknekoehfdfaaGreatDoorGa
namespace Go.Proofs.YtgjknekoehfdfaaGreatDoor
open Go.RowKit
set_option linter.unusedVariables false

theorem chkC_mk {nm : List UInt8} {cs : List Col} (h1 : isNameB nm = true) (h2 : ∀ c ∈ cs, isNameB c.x = true ∧ badK c = false) (h3 : cs.length ≤ 5) (h4 : againI cs = -1) : chkC nm cs = 0 := by
  unfold chkC
  rw [if_neg (by rw [h1]; decide), if_neg, if_neg (by omega), if_neg, if_neg (by rw [h4]; decide)]
  · have : cs.any badK = false := List.any_eq_false.2 fun c hc => by rw [(h2 c hc).2]; decide
    rw [this]
    decide
  · have : (cs.any fun c => !isNameB c.x) = false := List.any_eq_false.2 fun c hc => by rw [(h2 c hc).1]; decide
    rw [this]
    decide

end Go.Proofs.YtgjknekoehfdfaaGreatDoor
namespace Go.Proofs.YtgjknekoehfdfaaGreatDoor
open Go.RowKit
set_option linter.unusedVariables false

def TokOk (N : Nat) (t : Tok) : Prop := (t.k = 1 → isNameB t.x = true) ∧ 0 ≤ t.p ∧ t.p ≤ N
def TInv (N : Nat) (c : List Tok) : Prop := (∀ t ∈ c, TokOk N t) ∧ Ended c
theorem TInv.next {N : Nat} {t : Tok} {r : List Tok} (h : TInv N (t :: r)) (hk : t.k ≠ 0) : TInv N r := ⟨fun u hu => h.1 u (List.mem_cons_of_mem _ hu), h.2.cons hk⟩
section
variable {α : Type} {N : Nat}
def SureP (N : Nat) (Q : α → Prop) : PR α → Prop
  | .bad a e => 0 ≤ a ∧ a ≤ N ∧ e ≠ 0
  | .ok x c => Q x ∧ TInv N c
def Sure (N : Nat) (P : List Tok → PR α) (Q : α → Prop) : Prop := ∀ c, TInv N c → SureP N Q (P c)
theorem tk_sure (N : Nat) (k : Int) (xs : List (List UInt8)) : Sure N (tk k xs) (fun t => TokOk N t ∧ t.k = k) := by
  intro c h
  cases c with
  | nil => exact h.2.elim
  | cons t r =>
    have ht := h.1 t List.mem_cons_self
    show SureP N _ (if t.k = k ∧ (xs = [] ∨ t.x ∈ xs) then .ok t (if k = 0 then t :: r else r) else .bad t.p 80)
    split
    · rename_i hc
      refine ⟨⟨ht, hc.1⟩, ?_⟩
      split
      · exact h
      · rename_i hk
        exact h.next (by rw [hc.1]; exact hk)
    · exact ⟨ht.2.1, ht.2.2, by decide⟩
theorem more_sure {P : List Tok → PR α} {Q : α → Prop} (hP : Sure N P Q) : ∀ f, Sure N (moreP P f) (fun xs => ∀ x ∈ xs, Q x)
  | 0, c, h => ⟨by simp, h⟩
  | f + 1, c, h => by
    unfold moreP
    split
    · rename_i him
      have hd : TInv N (c.drop 1) := by
        obtain ⟨t, r, rfl⟩ := h.2.some
        have hh : t.k = 3 ∧ t.x = [44] := by simpa [isM] using him
        exact h.next (by rw [hh.1]; decide)
      have h1 := hP (c.drop 1) hd
      cases ho : P (c.drop 1) with
      | bad a e => rw [ho] at h1; exact h1
      | ok x c1 =>
        rw [ho] at h1
        have h2 := more_sure hP f c1 h1.2
        simp only
        cases hm : moreP P f c1 with
        | bad a e => rw [hm] at h2; exact h2
        | ok xs c2 =>
          rw [hm] at h2
          refine ⟨fun y hy => ?_, h2.2⟩
          rcases List.mem_cons.1 hy with rfl | hy
          · exact h1.1
          · exact h2.1 y hy
    · exact ⟨by simp, h⟩
theorem some_sure {P : List Tok → PR α} {Q : α → Prop} (hP : Sure N P Q) : Sure N (someP P) (fun xs => ∀ x ∈ xs, Q x) := by
  intro c h
  have h1 := hP c h
  unfold someP
  cases ho : P c with
  | bad a e => rw [ho] at h1; exact h1
  | ok x c1 =>
    rw [ho] at h1
    have h2 := more_sure hP c1.length c1 h1.2
    simp only
    cases hm : moreP P c1.length c1 with
    | bad a e => rw [hm] at h2; exact h2
    | ok xs c2 =>
      rw [hm] at h2
      refine ⟨fun y hy => ?_, h2.2⟩
      rcases List.mem_cons.1 hy with rfl | hy
      · exact h1.1
      · exact h2.1 y hy
theorem list_sure {P : List Tok → PR α} {Q : α → Prop} (hP : Sure N P Q) : Sure N (listP P) (fun xs => ∀ x ∈ xs, Q x) := by
  intro c h
  have h1 := tk_sure N 3 [[40]] c h
  unfold listP
  cases ho : tk 3 [[40]] c with
  | bad a e => rw [ho] at h1; exact h1
  | ok t c1 =>
    rw [ho] at h1
    simp only
    have h2 : SureP N (fun xs => ∀ x ∈ xs, Q x) (if isM [41] c1 = true then (.ok [] c1 : PR (List α)) else someP P c1) := by
      split
      · exact ⟨by simp, h1.2⟩
      · exact some_sure hP c1 h1.2
    cases hm : (if isM [41] c1 = true then (.ok [] c1 : PR (List α)) else someP P c1) with
    | bad a e => rw [hm] at h2; exact h2
    | ok xs c2 =>
      rw [hm] at h2
      have h3 := tk_sure N 3 [[41]] c2 h2.2
      simp only
      cases hk : tk 3 [[41]] c2 with
      | bad a e => rw [hk] at h3; exact h3
      | ok u c3 => rw [hk] at h3; exact ⟨h2.1, h3.2⟩
end
theorem col_sure (N : Nat) : Sure N colP (fun x => isNameB x.1 = true ∧ badK (clC x) = false ∧ 0 ≤ x.2.2 ∧ x.2.2 ≤ N) := by
  intro c h
  have h1 := tk_sure N 1 [] c h
  unfold colP
  cases ho : tk 1 [] c with
  | bad a e => rw [ho] at h1; exact h1
  | ok t c1 =>
    rw [ho] at h1
    have h2 := tk_sure N 1 [[105, 110, 116], [116, 101, 120, 116]] c1 h1.2
    simp only
    cases hm : tk 1 [[105, 110, 116], [116, 101, 120, 116]] c1 with
    | bad a e => rw [hm] at h2; exact h2
    | ok u c2 =>
      rw [hm] at h2
      refine ⟨⟨h1.1.1.1 h1.1.2, ?_, h1.1.1.2⟩, h2.2⟩
      simp only [clC, badK]
      split <;> decide
theorem schT_sure {N : Nat} {ts : List Tok} (h : TInv N ts) : match schT ts with
    | .bad a e => 0 ≤ a ∧ a ≤ N ∧ e ≠ 0
    | .ok r _ => chkC r.name r.cols = 0 := by
  have h1 := tk_sure N 1 [] ts h
  cases ho : tk 1 [] ts with
  | bad a e => rw [ho] at h1; rw [schT_bad1 ho]; exact h1
  | ok t c1 =>
    rw [ho] at h1
    have h2 := list_sure (col_sure N) c1 h1.2
    cases hl : listP colP c1 with
    | bad a e => rw [hl] at h2; rw [schT_bad2 ho hl]; exact h2
    | ok l c2 =>
      rw [hl] at h2
      have h3 := tk_sure N 0 [] c2 h2.2
      cases hk : tk 0 [] c2 with
      | bad a e => rw [hk] at h3; rw [schT_bad3 ho hl hk]; exact h3
      | ok u c3 =>
        rw [schT_ok ho hl hk]
        cases h5 : l[5]? with
        | some c =>
          rw [chkS_many h5]
          have h8 := (h2.1 c (List.mem_of_getElem? h5)).2.2
          exact ⟨h8.1, h8.2, by decide⟩
        | none =>
          rcases again_range (l.map clC) [] 0 with h6 | ⟨j, h6, _, h7⟩
          · rw [chkS_ok h5 h6]
            refine chkC_mk (h1.1.1.1 h1.1.2) ?_ ?_ h6
            · intro c hc
              obtain ⟨z, hz, rfl⟩ := List.mem_map.1 hc
              have := h2.1 z hz
              exact ⟨this.1, this.2.1⟩
            · simp only [rlnOf, List.length_map]
              have := List.getElem?_eq_none_iff.1 h5
              exact this
          · obtain ⟨c, hc⟩ : ∃ c, l[j]? = some c := ⟨l[j]'(by simpa using h7), List.getElem?_eq_getElem (by simpa using h7)⟩
            rw [chkS_again h5 h6 hc]
            have h8 := (h2.1 c (List.mem_of_getElem? hc)).2.2
            exact ⟨h8.1, h8.2, by decide⟩

theorem run_name {r : List UInt8} (hl : letB (bt r 0) = true) (hr : r ≠ []) (h16 : nameRun r ≤ 16) : isNameB (r.take (nameRun r)) = true := by
  have hp := nameRun_pos hr hl
  have hle := nameRun_le r
  have e : r.take (nameRun r) = r.takeWhile fun c => letB c.toNat || digB c.toNat := by
    have h1 := List.takeWhile_prefix (fun c : UInt8 => letB c.toNat || digB c.toNat) (l := r)
    exact (List.prefix_iff_eq_take.1 h1).symm
  have hall : ∀ c ∈ r.take (nameRun r), (letB c.toNat || digB c.toNat) = true := by
    intro c hc
    rw [e] at hc
    exact List.all_eq_true.1 (List.all_takeWhile (p := fun c : UInt8 => letB c.toNat || digB c.toNat) (l := r)) c hc
  have hlen : (r.take (nameRun r)).length = nameRun r := by rw [List.length_take]; omega
  have hrun : nameRun (r.take (nameRun r)) = (r.take (nameRun r)).length := by
    have := List.takeWhile_append_of_pos (p := fun c : UInt8 => letB c.toNat || digB c.toNat) (l₁ := r.take (nameRun r)) (l₂ := []) (by simpa using hall)
    rw [List.append_nil] at this
    show (List.takeWhile _ (r.take (nameRun r))).length = _
    rw [this]
    simp
  unfold isNameB
  simp only [decide_eq_true_eq]
  refine ⟨?_, ?_, hrun, by omega⟩
  · intro e2
    rw [e2] at hlen
    simp at hlen
    omega
  · have := bt_take_app (l := r) (y := []) (n := nameRun r) (j := 0) (by omega) hle
    rw [List.append_nil] at this
    rw [this]
    exact hl
theorem LX_toks : ∀ (m : Nat) (r : List UInt8) (p : Nat), r.length ≤ m → (LX r p).e = 0 → ∀ t ∈ (LX r p).ts, (t.k = 1 → isNameB t.x = true) ∧ (p : Int) ≤ t.p ∧ t.p ≤ ((p + r.length : Nat) : Int) := by
  intro m
  have hend : ∀ (r : List UInt8) (p : Nat), r = [] ∨ bt r 0 = 35 → ∀ t ∈ (LX r p).ts, (t.k = 1 → isNameB t.x = true) ∧ (p : Int) ≤ t.p ∧ t.p ≤ ((p + r.length : Nat) : Int) := by
    intro r p h t ht
    rw [LX_end h] at ht
    simp only [List.mem_singleton] at ht
    subst ht
    exact ⟨fun h => by simp [endTok] at h, by simp only [endTok]; omega, by simp [endTok]⟩
  induction m with
  | zero =>
    intro r p h _
    exact hend r p (.inl (List.length_eq_zero_iff.1 (by omega)))
  | succ m ih =>
    intro r p h
    by_cases h0 : r = [] ∨ bt r 0 = 35
    · exact fun _ => hend r p h0
    · have hr : r ≠ [] := fun e => h0 (.inl e)
      have hl := List.length_pos_iff.2 hr
      by_cases hb : spB (bt r 0) = true
      · rw [LX_blank h0 hb]
        intro he t ht
        have := ih _ _ (by rw [List.length_drop]; omega) he t ht
        rw [List.length_drop] at this
        exact ⟨this.1, by omega, by omega⟩
      · have hb' : spB (bt r 0) = false := by simpa using hb
        by_cases he : (oneS r p).2 = 0
        · obtain ⟨l1, _, l3⟩ := one_len he hr
          obtain ⟨_, k2⟩ := one_kind he
          rw [LX_one h0 hb' he]
          split
          · rename_i h9
            intro h8
            exact absurd h8 h9
          · rename_i h9
            intro _ t ht
            simp only [List.mem_cons] at ht
            rcases ht with rfl | ht
            · refine ⟨fun hk => ?_, by rw [k2]; exact Int.le_refl _, by rw [k2]; omega⟩
              obtain ⟨a1, a2, a3⟩ := one_name he hk
              rw [a3]
              exact run_name a1 hr a2
            · have := ih (r.drop (oneS r p).1.x.length) (p + (oneS r p).1.x.length) (by rw [List.length_drop]; omega) (by simpa using h9) t ht
              rw [List.length_drop] at this
              exact ⟨this.1, by omega, by omega⟩
        · rw [LX_bad h0 hb' he]
          exact fun h => absurd h he
theorem lex_toks {l : List UInt8} (h : (lexR l).e = 0) (he : Ended (lexR l).ts) : TInv l.length (lexR l).ts := by
  by_cases hl : 16384 < l.length
  · rw [lexR_long hl] at h
    exact absurd h (by decide)
  · rw [lexR_short (by omega)] at h ⊢
    rw [lexR_short (by omega)] at he
    refine ⟨fun t ht => ?_, he⟩
    have := LX_toks _ l 0 (Nat.le_refl _) h t ht
    exact ⟨this.1, by have := this.2.1; omega, by have := this.2.2; omega⟩
theorem lex_place (l : List UInt8) (h : (lexR l).e ≠ 0) : 0 ≤ (lexR l).at_ ∧ (lexR l).at_ ≤ l.length := by
  by_cases hl : 16384 < l.length
  · rw [lexR_long hl]
    exact ⟨by simp, by simp⟩
  · rw [lexR_short (by omega)] at h ⊢
    obtain ⟨n, ts, h1, h2, _⟩ := LX_fault _ l 0 (Nat.le_refl _) h
    rw [h1]
    exact ⟨by omega, by omega⟩
end Go.Proofs.YtgjknekoehfdfaaGreatDoor
