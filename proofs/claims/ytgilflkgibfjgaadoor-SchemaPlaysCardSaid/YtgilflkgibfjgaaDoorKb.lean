/- A declaration's text is cut into tokens, and read as the declaration: plainly. -/
import Derived.Test.YtgilflkgibfjgaaDoorKa
import Derived.Test.YtgilflkgibfjgaaDoorLf
namespace Go.Proofs.YtgilflkgibfjgaaDoor
open Go.RowKit
set_option linter.unusedVariables false

def LXis (r : List UInt8) (p : Nat) (ts : List Tok) : Prop := LX r p = ⟨ts, 0, 0⟩
def nmT (x : List UInt8) (p : Nat) : Tok := ⟨1, x, 0, 0, [], p⟩
def mkT (x : List UInt8) (p : Nat) : Tok := ⟨3, x, 0, 0, [], p⟩
def sepB (y : List UInt8) : Prop := (letB (bt y 0) || digB (bt y 0)) = false
theorem lxis_end (p : Nat) : LXis [] p [endTok p] := LX_end (.inl rfl)
theorem lxis_sp {y : List UInt8} {p : Nat} {ts : List Tok} (h : LXis y (p + 1) ts) : LXis (32 :: y) p ts := by
  unfold LXis at h ⊢
  rw [LX_blank (by simp [bt]) (by simp [bt, spB])]
  simpa using h
theorem lxis_one {x y : List UInt8} {p : Nat} {ts : List Tok} {t : Tok} (ho : oneS (x ++ y) p = (t, 0)) (hx : t.x = x) (hne : x ≠ []) (h35 : bt x 0 ≠ 35) (hsp : spB (bt x 0) = false) (h : LXis y (p + x.length) ts) : LXis (x ++ y) p (t :: ts) := by
  unfold LXis at h ⊢
  rw [LX_one (not_end_app hne h35) (by rw [bt0_app hne]; exact hsp) (by rw [ho]), ho]
  simp only [hx, List.drop_left]
  rw [h]
  simp
theorem lxis_nm {x y : List UInt8} {p : Nat} {ts : List Tok} (hx : isNameB x = true) (hy : sepB y) (h : LXis y (p + x.length) ts) : LXis (x ++ y) p (nmT x p :: ts) := by
  unfold isNameB at hx
  simp only [decide_eq_true_eq] at hx
  obtain ⟨h1, h2, h3, h4⟩ := hx
  have hb : ∀ c : Int, letB c = true → c ≠ 35 ∧ spB c = false ∧ c ≠ 58 ∧ c ≠ 34 ∧ digB c = false ∧ c ≠ 45 ∧ c ≠ 40 ∧ c ≠ 41 ∧ c ≠ 44 ∧ c ≠ 43 := by
    intro c hc
    unfold letB at hc
    unfold spB digB
    simp only [decide_eq_true_eq, decide_eq_false_iff_not] at hc ⊢
    omega
  obtain ⟨c1, c2, c3, c4, c5, c6, c7, c8, c9, c10⟩ := hb _ h2
  have hr : nameRun (x ++ y) = x.length := nameRun_app (x := x) (y := y) (rest := []) (by rw [List.append_nil]; exact h3) (fun e => by unfold sepB at hy; rw [hy] at e; cases e)
  have ho : oneS (x ++ y) p = (nmT x p, 0) := by
    have b0 := bt0_app (y := y) h1
    unfold oneS
    rw [b0, if_neg c3, if_neg (by rw [c5]; simp [c4, c6]), if_neg (by simp [c6, c7, c8, c9, c10]), if_pos h2, if_neg (by omega), hr, List.take_left]
    rfl
  exact lxis_one ho rfl h1 c1 c2 h
theorem lxis_mk {c : UInt8} {y : List UInt8} {p : Nat} {ts : List Tok} (hc : c = 40 ∨ c = 41 ∨ c = 44) (h : LXis y (p + 1) ts) : LXis (c :: y) p (mkT [c] p :: ts) := by
  have ho : oneS ([c] ++ y) p = (mkT [c] p, 0) := by
    rcases hc with rfl | rfl | rfl <;> simp [oneS, bt, digB, mkT]
  refine lxis_one (x := [c]) ho rfl (by simp) ?_ ?_ h
  · rcases hc with rfl | rfl | rfl <;> simp [bt]
  · rcases hc with rfl | rfl | rfl <;> simp [bt, spB]
theorem kindN_name (k : Int) : isNameB (kindN k) = true := by
  unfold kindN
  split <;> kernel_rfl
theorem lxis_col {c : Col} {y : List UInt8} {p : Nat} {ts : List Tok} (hc : isNameB c.x = true) (hy : sepB y) (h : LXis y (p + c.x.length + 1 + (kindN c.k).length) ts) : LXis (colT c ++ y) p (nmT c.x p :: nmT (kindN c.k) (p + c.x.length + 1) :: ts) := by
  unfold colT
  rw [List.append_assoc, List.append_assoc]
  exact lxis_nm hc (by simp [sepB, bt, letB, digB]) (lxis_sp (lxis_nm (kindN_name _) hy h))
theorem colP_read {c : Col} (hk : badK c = false) (p q : Nat) (ts : List Tok) : colP (nmT c.x p :: nmT (kindN c.k) q :: ts) = .ok (c.x, c.k, p) ts := by
  have h1 : tk 1 [] (nmT c.x p :: nmT (kindN c.k) q :: ts) = .ok (nmT c.x p) (nmT (kindN c.k) q :: ts) := by simp [tk, nmT]
  have hk' : c.k = 1 ∨ c.k = 2 := by
    unfold badK at hk
    simp only [decide_eq_false_iff_not] at hk
    omega
  rcases hk' with hk' | hk'
  · have h2 : tk 1 [[105, 110, 116], [116, 101, 120, 116]] (nmT (kindN c.k) q :: ts) = .ok (nmT (kindN c.k) q) ts := by simp [tk, nmT, hk', kindN]
    rw [col_ok h1 h2]
    simp [nmT, hk', kindN]
  · have h2 : tk 1 [[105, 110, 116], [116, 101, 120, 116]] (nmT (kindN c.k) q :: ts) = .ok (nmT (kindN c.k) q) ts := by simp [tk, nmT, hk', kindN]
    rw [col_ok h1 h2]
    simp [nmT, hk', kindN]
theorem cols_read : ∀ (cs : List Col) (p : Nat), (∀ c ∈ cs, isNameB c.x = true ∧ badK c = false) →
    ∃ (ts : List Tok) (zs : List ClP) (q1 q2 : Nat), LXis (Lib.joinTail [44, 32] (cs.map colT) ++ [41]) p ts ∧ zs.map clC = cs ∧ ∀ ys, restP colP ys ts = .ok (ys ++ zs) [mkT [41] q1, endTok q2]
  | [], p, _ => by
    refine ⟨[mkT [41] p, endTok (p + 1)], [], p, p + 1, ?_, rfl, fun ys => ?_⟩
    · show LXis [41] p _
      exact lxis_mk (.inr (.inl rfl)) (lxis_end _)
    · rw [restP_end ys (by simp [isM, mkT]), List.append_nil]
  | c :: cs, p, h => by
    obtain ⟨h1, h2⟩ := h c List.mem_cons_self
    obtain ⟨ts, zs, q1, q2, k1, k2, k3⟩ := cols_read cs (p + 1 + 1 + c.x.length + 1 + (kindN c.k).length) (fun d hd => h d (List.mem_cons_of_mem _ hd))
    have e : Lib.joinTail [44, 32] ((c :: cs).map colT) ++ [41] = 44 :: 32 :: (colT c ++ (Lib.joinTail [44, 32] (cs.map colT) ++ [41])) := by
      simp [Lib.joinTail]
    have hs : sepB (Lib.joinTail [44, 32] (cs.map colT) ++ [41]) := by
      cases cs with
      | nil => simp [sepB, Lib.joinTail, bt, letB, digB]
      | cons d r => simp [sepB, Lib.joinTail, bt, letB, digB]
    have hc := lxis_col (p := p + 1 + 1) h1 hs k1
    refine ⟨mkT [44] p :: nmT c.x (p + 1 + 1) :: nmT (kindN c.k) (p + 1 + 1 + c.x.length + 1) :: ts, (c.x, c.k, ((p + 1 + 1 : Nat) : Int)) :: zs, q1, q2, ?_, by simp [clC, k2], fun ys => ?_⟩
    · rw [e]
      exact lxis_mk (.inr (.inr rfl)) (lxis_sp hc)
    · have hp := colP_read h2 (p + 1 + 1) (p + 1 + 1 + c.x.length + 1) ts
      have := restP_ok col_less ys (c := mkT [44] p :: nmT c.x (p + 1 + 1) :: nmT (kindN c.k) (p + 1 + 1 + c.x.length + 1) :: ts) (c1 := ts) (x := (c.x, c.k, ((p + 1 + 1 : Nat) : Int))) (by simp [isM, mkT]) (by simpa using hp)
      rw [this.1, k3]
      simp

theorem chkC_ok {nm : List UInt8} {cs : List Col} (h : chkC nm cs = 0) : isNameB nm = true ∧ (∀ c ∈ cs, isNameB c.x = true ∧ badK c = false) ∧ cs.length ≤ 5 ∧ againI cs = -1 := by
  unfold chkC at h
  split at h
  · cases h
  · rename_i h1
    split at h
    · cases h
    · rename_i h2
      split at h
      · cases h
      · rename_i h3
        split at h
        · cases h
        · rename_i h4
          split at h
          · cases h
          · rename_i h5
            refine ⟨by simpa using h1, fun c hc => ⟨?_, ?_⟩, by omega, ?_⟩
            · have := List.any_eq_false.1 (by simpa using h2 : (cs.any fun c => !isNameB c.x) = false) c hc
              simpa using this
            · have := List.any_eq_false.1 (by simpa using h4 : cs.any badK = false) c hc
              simpa using this
            · rcases again_range cs [] 0 with h6 | ⟨j, h6, _⟩
              · exact h6
              · exact absurd (show 0 ≤ againI cs by unfold againI; rw [h6]; exact Int.natCast_nonneg _) h5
theorem chkC_mk {nm : List UInt8} {cs : List Col} (h1 : isNameB nm = true) (h2 : ∀ c ∈ cs, isNameB c.x = true ∧ badK c = false) (h3 : cs.length ≤ 5) (h4 : againI cs = -1) : chkC nm cs = 0 := by
  unfold chkC
  rw [if_neg (by rw [h1]; decide), if_neg, if_neg (by omega), if_neg, if_neg (by rw [h4]; decide)]
  · have : cs.any badK = false := List.any_eq_false.2 fun c hc => by rw [(h2 c hc).2]; decide
    rw [this]
    decide
  · have : (cs.any fun c => !isNameB c.x) = false := List.any_eq_false.2 fun c hc => by rw [(h2 c hc).1]; decide
    rw [this]
    decide

/-- The text of a declaration that is right. -/
theorem show_read {nm : List UInt8} {cs : List Col} (h : chkC nm cs = 0) : ∃ ts, LXis (showC nm cs) 0 ts ∧ schT ts = .ok ⟨nm, cs⟩ [] := by
  obtain ⟨h1, h2, h3, h4⟩ := chkC_ok h
  unfold showC
  rw [if_pos h]
  have hfin : ∀ (ts : List Tok) (l : List ClP) (q : Nat), listP colP ts = .ok l [endTok q] → l.map clC = cs → schT (nmT nm 0 :: ts) = .ok ⟨nm, cs⟩ [] := by
    intro ts l q hl hc
    have e1 : tk 1 [] (nmT nm 0 :: ts) = .ok (nmT nm 0) ts := by simp [tk, nmT]
    have e3 : tk 0 [] [endTok q] = .ok (endTok q) [endTok q] := by simp [tk, endTok]
    have hl5 : l.length = cs.length := by rw [← hc, List.length_map]
    rw [schT_ok e1 hl e3, chkS_ok (List.getElem?_eq_none (by omega)) (by rw [hc]; exact h4)]
    show PR.ok (rlnOf nm l) [] = _
    unfold rlnOf
    rw [hc]
  cases cs with
  | nil =>
    refine ⟨[nmT nm 0, mkT [40] (0 + nm.length), mkT [41] (0 + nm.length + 1), endTok (0 + nm.length + 1 + 1)], ?_, ?_⟩
    · have e : nm ++ [40] ++ Lib.join ([].map colT) [44, 32] ++ [41] = nm ++ (40 :: [41]) := by simp [Lib.join_nil]
      rw [e]
      exact lxis_nm h1 (by simp [sepB, bt, letB, digB]) (lxis_mk (.inl rfl) (lxis_mk (.inr (.inl rfl)) (lxis_end _)))
    · refine hfin _ [] _ (list_none (t := mkT [40] (0 + nm.length)) (c1 := [mkT [41] (0 + nm.length + 1), endTok (0 + nm.length + 1 + 1)]) (by simp [tk, mkT]) (by simp [isM, mkT])) rfl
  | cons c cs =>
    obtain ⟨k1, k2⟩ := h2 c List.mem_cons_self
    obtain ⟨ts, zs, q1, q2, j1, j2, j3⟩ := cols_read cs (0 + nm.length + 1 + c.x.length + 1 + (kindN c.k).length) (fun d hd => h2 d (List.mem_cons_of_mem _ hd))
    have hs : sepB (Lib.joinTail [44, 32] (cs.map colT) ++ [41]) := by
      cases cs with
      | nil => simp [sepB, Lib.joinTail, bt, letB, digB]
      | cons d r => simp [sepB, Lib.joinTail, bt, letB, digB]
    have e : nm ++ [40] ++ Lib.join ((c :: cs).map colT) [44, 32] ++ [41] = nm ++ (40 :: (colT c ++ (Lib.joinTail [44, 32] (cs.map colT) ++ [41]))) := by
      rw [List.map_cons, Lib.join_cons]
      simp
    have hc := lxis_col (p := 0 + nm.length + 1) k1 hs j1
    refine ⟨nmT nm 0 :: mkT [40] (0 + nm.length) :: nmT c.x (0 + nm.length + 1) :: nmT (kindN c.k) (0 + nm.length + 1 + c.x.length + 1) :: ts, ?_, ?_⟩
    · rw [e]
      exact lxis_nm h1 (by simp [sepB, bt, letB, digB]) (lxis_mk (.inl rfl) hc)
    · have hp := colP_read k2 (0 + nm.length + 1) (0 + nm.length + 1 + c.x.length + 1) ts
      have hsm : someP colP (nmT c.x (0 + nm.length + 1) :: nmT (kindN c.k) (0 + nm.length + 1 + c.x.length + 1) :: ts) = .ok ((c.x, c.k, ((0 + nm.length + 1 : Nat) : Int)) :: zs) [mkT [41] q1, endTok q2] := by
        rw [some_ok hp, j3]
        rfl
      refine hfin _ _ q2 (list_ok (t := mkT [40] (0 + nm.length)) (u := mkT [41] q1) (by simp [tk, mkT]) (by simp [isM, nmT]) hsm (by simp [tk, mkT])) (by simp [clC, j2])
theorem nm_len {x : List UInt8} (h : isNameB x = true) : 1 ≤ x.length ∧ x.length ≤ 16 := by
  unfold isNameB at h
  simp only [decide_eq_true_eq] at h
  exact ⟨List.length_pos_iff.2 h.1, h.2.2.2⟩
theorem show_len {nm : List UInt8} {cs : List Col} (h : chkC nm cs = 0) : 1 ≤ (showC nm cs).length ∧ (showC nm cs).length ≤ 16384 := by
  obtain ⟨h1, h2, h3, h4⟩ := chkC_ok h
  have hn := nm_len h1
  have ht : ∀ c ∈ cs, (colT c).length ≤ 21 := by
    intro c hc
    have := nm_len (h2 c hc).1
    unfold colT kindN
    simp only [List.length_append, List.length_cons, List.length_nil]
    split <;> simp <;> omega
  have hj : ∀ l : List (List UInt8), (∀ x ∈ l, x.length ≤ 21) → (Lib.join l [44, 32]).length ≤ 23 * l.length := by
    intro l hl
    cases l with
    | nil => simp [Lib.join_nil]
    | cons x r =>
      rw [Lib.join_cons, List.length_append, Lib.joinTail_length]
      have h1 := hl x List.mem_cons_self
      have h2 : Lib.lens r ≤ 21 * r.length := by
        have : ∀ r : List (List UInt8), (∀ x ∈ r, x.length ≤ 21) → Lib.lens r ≤ 21 * r.length := by
          intro r
          induction r with
          | nil => intro _; simp [Lib.lens]
          | cons y r ih =>
            intro hr
            have h3 := ih fun z hz => hr z (List.mem_cons_of_mem _ hz)
            have h4 := hr y List.mem_cons_self
            simp only [Lib.lens, List.map_cons, List.sum_cons, List.length_cons] at h3 ⊢
            omega
        exact this r fun z hz => hl z (List.mem_cons_of_mem _ hz)
      simp only [List.length_cons, List.length_nil]
      omega
  have := hj (cs.map colT) (by intro x hx; simp at hx; obtain ⟨c, hc, rfl⟩ := hx; exact ht c hc)
  rw [List.length_map] at this
  unfold showC
  rw [if_pos h]
  simp only [List.length_append, List.length_cons, List.length_nil]
  omega
theorem show_back {nm : List UInt8} {cs : List Col} (h : chkC nm cs = 0) : (lexR (showC nm cs)).e = 0 ∧ schT (lexR (showC nm cs)).ts = .ok ⟨nm, cs⟩ [] := by
  obtain ⟨ts, h1, h2⟩ := show_read h
  rw [lexR_short (show_len h).2]
  unfold LXis at h1
  rw [h1]
  exact ⟨rfl, h2⟩
end Go.Proofs.YtgilflkgibfjgaaDoor
