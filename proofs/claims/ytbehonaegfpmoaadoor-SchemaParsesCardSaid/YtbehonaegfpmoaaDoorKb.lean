/- A declaration's text is cut into tokens, and read as the declaration: plainly. osierref08.Check, Show, walked. osierref08.Show, walked. -/
import Derived.Test.YtbehonaegfpmoaaDoorKa
import Derived.Test.YtbehonaegfpmoaaDoorLf
import Derived.Deep.QuietTactic
import Derived.BigQuiet
namespace Go.Proofs.YtbehonaegfpmoaaDoor
open Go.RowKit
set_option linter.unusedVariables false

def LXis (r : List UInt8) (p : Nat) (ts : List Tok) : Prop := LX r p = ⟨ts, 0, 0⟩
def nmT (x : List UInt8) (p : Nat) : Tok := ⟨1, x, 0, 0, [], p⟩
def mkT (x : List UInt8) (p : Nat) : Tok := ⟨3, x, 0, 0, [], p⟩
def sepB (y : List UInt8) : Prop := (letB (bt y 0) || digB (bt y 0)) = false
theorem lxis_end (p : Nat) : LXis [] p [endTok p] := LX_end (.inl rfl)
theorem lxis_sp {y : List UInt8} {p : Nat} {ts : List Tok} (h : LXis y (p + 1) ts) : LXis (32 :: y) p ts := by
  unfold LXis at h ⊢
  rw [LX_blank (by simp [bt]) (by simp [bt, spB])]
  simpa using h
theorem lxis_one {x y : List UInt8} {p : Nat} {ts : List Tok} {t : Tok} (ho : oneS (x ++ y) p = (t, 0)) (hx : t.x = x) (hne : x ≠ []) (h35 : bt x 0 ≠ 35) (hsp : spB (bt x 0) = false) (h : LXis y (p + x.length) ts) : LXis (x ++ y) p (t :: ts) := by
  unfold LXis at h ⊢
  rw [LX_one (not_end_app hne h35) (by rw [bt0_app hne]; exact hsp) (by rw [ho]), ho]
  simp only [hx, List.drop_left]
  rw [h]
  simp
theorem lxis_nm {x y : List UInt8} {p : Nat} {ts : List Tok} (hx : isNameB x = true) (hy : sepB y) (h : LXis y (p + x.length) ts) : LXis (x ++ y) p (nmT x p :: ts) := by
  unfold isNameB at hx
  simp only [decide_eq_true_eq] at hx
  obtain ⟨h1, h2, h3, h4⟩ := hx
  have hb : ∀ c : Int, letB c = true → c ≠ 35 ∧ spB c = false ∧ c ≠ 58 ∧ c ≠ 34 ∧ digB c = false ∧ c ≠ 45 ∧ c ≠ 40 ∧ c ≠ 41 ∧ c ≠ 44 ∧ c ≠ 43 := by
    intro c hc
    unfold letB at hc
    unfold spB digB
    simp only [decide_eq_true_eq, decide_eq_false_iff_not] at hc ⊢
    omega
  obtain ⟨c1, c2, c3, c4, c5, c6, c7, c8, c9, c10⟩ := hb _ h2
  have hr : nameRun (x ++ y) = x.length := nameRun_app (x := x) (y := y) (rest := []) (by rw [List.append_nil]; exact h3) (fun e => by unfold sepB at hy; rw [hy] at e; cases e)
  have ho : oneS (x ++ y) p = (nmT x p, 0) := by
    have b0 := bt0_app (y := y) h1
    unfold oneS
    rw [b0, if_neg c3, if_neg (by rw [c5]; simp [c4, c6]), if_neg (by simp [c6, c7, c8, c9, c10]), if_pos h2, if_neg (by omega), hr, List.take_left]
    rfl
  exact lxis_one ho rfl h1 c1 c2 h
theorem lxis_mk {c : UInt8} {y : List UInt8} {p : Nat} {ts : List Tok} (hc : c = 40 ∨ c = 41 ∨ c = 44) (h : LXis y (p + 1) ts) : LXis (c :: y) p (mkT [c] p :: ts) := by
  have ho : oneS ([c] ++ y) p = (mkT [c] p, 0) := by
    rcases hc with rfl | rfl | rfl <;> simp [oneS, bt, digB, mkT]
  refine lxis_one (x := [c]) ho rfl (by simp) ?_ ?_ h
  · rcases hc with rfl | rfl | rfl <;> simp [bt]
  · rcases hc with rfl | rfl | rfl <;> simp [bt, spB]
theorem kindN_name (k : Int) : isNameB (kindN k) = true := by
  unfold kindN
  split <;> kernel_rfl
theorem lxis_col {c : Col} {y : List UInt8} {p : Nat} {ts : List Tok} (hc : isNameB c.x = true) (hy : sepB y) (h : LXis y (p + c.x.length + 1 + (kindN c.k).length) ts) : LXis (colT c ++ y) p (nmT c.x p :: nmT (kindN c.k) (p + c.x.length + 1) :: ts) := by
  unfold colT
  rw [List.append_assoc, List.append_assoc]
  exact lxis_nm hc (by simp [sepB, bt, letB, digB]) (lxis_sp (lxis_nm (kindN_name _) hy h))
theorem colP_read {c : Col} (hk : badK c = false) (p q : Nat) (ts : List Tok) : colP (nmT c.x p :: nmT (kindN c.k) q :: ts) = .ok (c.x, c.k, p) ts := by
  have h1 : tk 1 [] (nmT c.x p :: nmT (kindN c.k) q :: ts) = .ok (nmT c.x p) (nmT (kindN c.k) q :: ts) := by simp [tk, nmT]
  have hk' : c.k = 1 ∨ c.k = 2 := by
    unfold badK at hk
    simp only [decide_eq_false_iff_not] at hk
    omega
  rcases hk' with hk' | hk'
  · have h2 : tk 1 [[105, 110, 116], [116, 101, 120, 116]] (nmT (kindN c.k) q :: ts) = .ok (nmT (kindN c.k) q) ts := by simp [tk, nmT, hk', kindN]
    rw [col_ok h1 h2]
    simp [nmT, hk', kindN]
  · have h2 : tk 1 [[105, 110, 116], [116, 101, 120, 116]] (nmT (kindN c.k) q :: ts) = .ok (nmT (kindN c.k) q) ts := by simp [tk, nmT, hk', kindN]
    rw [col_ok h1 h2]
    simp [nmT, hk', kindN]
theorem cols_read : ∀ (cs : List Col) (p : Nat), (∀ c ∈ cs, isNameB c.x = true ∧ badK c = false) →
    ∃ (ts : List Tok) (zs : List ClP) (q1 q2 : Nat), LXis (Lib.joinTail [44, 32] (cs.map colT) ++ [41]) p ts ∧ zs.map clC = cs ∧ ∀ ys, restP colP ys ts = .ok (ys ++ zs) [mkT [41] q1, endTok q2]
  | [], p, _ => by
    refine ⟨[mkT [41] p, endTok (p + 1)], [], p, p + 1, ?_, rfl, fun ys => ?_⟩
    · show LXis [41] p _
      exact lxis_mk (.inr (.inl rfl)) (lxis_end _)
    · rw [restP_end ys (by simp [isM, mkT]), List.append_nil]
  | c :: cs, p, h => by
    obtain ⟨h1, h2⟩ := h c List.mem_cons_self
    obtain ⟨ts, zs, q1, q2, k1, k2, k3⟩ := cols_read cs (p + 1 + 1 + c.x.length + 1 + (kindN c.k).length) (fun d hd => h d (List.mem_cons_of_mem _ hd))
    have e : Lib.joinTail [44, 32] ((c :: cs).map colT) ++ [41] = 44 :: 32 :: (colT c ++ (Lib.joinTail [44, 32] (cs.map colT) ++ [41])) := by
      simp [Lib.joinTail]
    have hs : sepB (Lib.joinTail [44, 32] (cs.map colT) ++ [41]) := by
      cases cs with
      | nil => simp [sepB, Lib.joinTail, bt, letB, digB]
      | cons d r => simp [sepB, Lib.joinTail, bt, letB, digB]
    have hc := lxis_col (p := p + 1 + 1) h1 hs k1
    refine ⟨mkT [44] p :: nmT c.x (p + 1 + 1) :: nmT (kindN c.k) (p + 1 + 1 + c.x.length + 1) :: ts, (c.x, c.k, ((p + 1 + 1 : Nat) : Int)) :: zs, q1, q2, ?_, by simp [clC, k2], fun ys => ?_⟩
    · rw [e]
      exact lxis_mk (.inr (.inr rfl)) (lxis_sp hc)
    · have hp := colP_read h2 (p + 1 + 1) (p + 1 + 1 + c.x.length + 1) ts
      have := restP_ok col_less ys (c := mkT [44] p :: nmT c.x (p + 1 + 1) :: nmT (kindN c.k) (p + 1 + 1 + c.x.length + 1) :: ts) (c1 := ts) (x := (c.x, c.k, ((p + 1 + 1 : Nat) : Int))) (by simp [isM, mkT]) (by simpa using hp)
      rw [this.1, k3]
      simp

theorem chkC_ok {nm : List UInt8} {cs : List Col} (h : chkC nm cs = 0) : isNameB nm = true ∧ (∀ c ∈ cs, isNameB c.x = true ∧ badK c = false) ∧ cs.length ≤ 5 ∧ againI cs = -1 := by
  unfold chkC at h
  split at h
  · cases h
  · rename_i h1
    split at h
    · cases h
    · rename_i h2
      split at h
      · cases h
      · rename_i h3
        split at h
        · cases h
        · rename_i h4
          split at h
          · cases h
          · rename_i h5
            refine ⟨by simpa using h1, fun c hc => ⟨?_, ?_⟩, by omega, ?_⟩
            · have := List.any_eq_false.1 (by simpa using h2 : (cs.any fun c => !isNameB c.x) = false) c hc
              simpa using this
            · have := List.any_eq_false.1 (by simpa using h4 : cs.any badK = false) c hc
              simpa using this
            · rcases again_range cs [] 0 with h6 | ⟨j, h6, _⟩
              · exact h6
              · exact absurd (show 0 ≤ againI cs by unfold againI; rw [h6]; exact Int.natCast_nonneg _) h5
theorem chkC_mk {nm : List UInt8} {cs : List Col} (h1 : isNameB nm = true) (h2 : ∀ c ∈ cs, isNameB c.x = true ∧ badK c = false) (h3 : cs.length ≤ 5) (h4 : againI cs = -1) : chkC nm cs = 0 := by
  unfold chkC
  rw [if_neg (by rw [h1]; decide), if_neg, if_neg (by omega), if_neg, if_neg (by rw [h4]; decide)]
  · have : cs.any badK = false := List.any_eq_false.2 fun c hc => by rw [(h2 c hc).2]; decide
    rw [this]
    decide
  · have : (cs.any fun c => !isNameB c.x) = false := List.any_eq_false.2 fun c hc => by rw [(h2 c hc).1]; decide
    rw [this]
    decide

/-- The text of a declaration that is right. -/
theorem show_read {nm : List UInt8} {cs : List Col} (h : chkC nm cs = 0) : ∃ ts, LXis (showC nm cs) 0 ts ∧ schT ts = .ok ⟨nm, cs⟩ [] := by
  obtain ⟨h1, h2, h3, h4⟩ := chkC_ok h
  unfold showC
  rw [if_pos h]
  have hfin : ∀ (ts : List Tok) (l : List ClP) (q : Nat), listP colP ts = .ok l [endTok q] → l.map clC = cs → schT (nmT nm 0 :: ts) = .ok ⟨nm, cs⟩ [] := by
    intro ts l q hl hc
    have e1 : tk 1 [] (nmT nm 0 :: ts) = .ok (nmT nm 0) ts := by simp [tk, nmT]
    have e3 : tk 0 [] [endTok q] = .ok (endTok q) [endTok q] := by simp [tk, endTok]
    have hl5 : l.length = cs.length := by rw [← hc, List.length_map]
    rw [schT_ok e1 hl e3, chkS_ok (List.getElem?_eq_none (by omega)) (by rw [hc]; exact h4)]
    show PR.ok (rlnOf nm l) [] = _
    unfold rlnOf
    rw [hc]
  cases cs with
  | nil =>
    refine ⟨[nmT nm 0, mkT [40] (0 + nm.length), mkT [41] (0 + nm.length + 1), endTok (0 + nm.length + 1 + 1)], ?_, ?_⟩
    · have e : nm ++ [40] ++ Lib.join ([].map colT) [44, 32] ++ [41] = nm ++ (40 :: [41]) := by simp [Lib.join_nil]
      rw [e]
      exact lxis_nm h1 (by simp [sepB, bt, letB, digB]) (lxis_mk (.inl rfl) (lxis_mk (.inr (.inl rfl)) (lxis_end _)))
    · refine hfin _ [] _ (list_none (t := mkT [40] (0 + nm.length)) (c1 := [mkT [41] (0 + nm.length + 1), endTok (0 + nm.length + 1 + 1)]) (by simp [tk, mkT]) (by simp [isM, mkT])) rfl
  | cons c cs =>
    obtain ⟨k1, k2⟩ := h2 c List.mem_cons_self
    obtain ⟨ts, zs, q1, q2, j1, j2, j3⟩ := cols_read cs (0 + nm.length + 1 + c.x.length + 1 + (kindN c.k).length) (fun d hd => h2 d (List.mem_cons_of_mem _ hd))
    have hs : sepB (Lib.joinTail [44, 32] (cs.map colT) ++ [41]) := by
      cases cs with
      | nil => simp [sepB, Lib.joinTail, bt, letB, digB]
      | cons d r => simp [sepB, Lib.joinTail, bt, letB, digB]
    have e : nm ++ [40] ++ Lib.join ((c :: cs).map colT) [44, 32] ++ [41] = nm ++ (40 :: (colT c ++ (Lib.joinTail [44, 32] (cs.map colT) ++ [41]))) := by
      rw [List.map_cons, Lib.join_cons]
      simp
    have hc := lxis_col (p := 0 + nm.length + 1) k1 hs j1
    refine ⟨nmT nm 0 :: mkT [40] (0 + nm.length) :: nmT c.x (0 + nm.length + 1) :: nmT (kindN c.k) (0 + nm.length + 1 + c.x.length + 1) :: ts, ?_, ?_⟩
    · rw [e]
      exact lxis_nm h1 (by simp [sepB, bt, letB, digB]) (lxis_mk (.inl rfl) hc)
    · have hp := colP_read k2 (0 + nm.length + 1) (0 + nm.length + 1 + c.x.length + 1) ts
      have hsm : someP colP (nmT c.x (0 + nm.length + 1) :: nmT (kindN c.k) (0 + nm.length + 1 + c.x.length + 1) :: ts) = .ok ((c.x, c.k, ((0 + nm.length + 1 : Nat) : Int)) :: zs) [mkT [41] q1, endTok q2] := by
        rw [some_ok hp, j3]
        rfl
      refine hfin _ _ q2 (list_ok (t := mkT [40] (0 + nm.length)) (u := mkT [41] q1) (by simp [tk, mkT]) (by simp [isM, nmT]) hsm (by simp [tk, mkT])) (by simp [clC, j2])
theorem nm_len {x : List UInt8} (h : isNameB x = true) : 1 ≤ x.length ∧ x.length ≤ 16 := by
  unfold isNameB at h
  simp only [decide_eq_true_eq] at h
  exact ⟨List.length_pos_iff.2 h.1, h.2.2.2⟩
theorem show_len {nm : List UInt8} {cs : List Col} (h : chkC nm cs = 0) : 1 ≤ (showC nm cs).length ∧ (showC nm cs).length ≤ 16384 := by
  obtain ⟨h1, h2, h3, h4⟩ := chkC_ok h
  have hn := nm_len h1
  have ht : ∀ c ∈ cs, (colT c).length ≤ 21 := by
    intro c hc
    have := nm_len (h2 c hc).1
    unfold colT kindN
    simp only [List.length_append, List.length_cons, List.length_nil]
    split <;> simp <;> omega
  have hj : ∀ l : List (List UInt8), (∀ x ∈ l, x.length ≤ 21) → (Lib.join l [44, 32]).length ≤ 23 * l.length := by
    intro l hl
    cases l with
    | nil => simp [Lib.join_nil]
    | cons x r =>
      rw [Lib.join_cons, List.length_append, Lib.joinTail_length]
      have h1 := hl x List.mem_cons_self
      have h2 : Lib.lens r ≤ 21 * r.length := by
        have : ∀ r : List (List UInt8), (∀ x ∈ r, x.length ≤ 21) → Lib.lens r ≤ 21 * r.length := by
          intro r
          induction r with
          | nil => intro _; simp [Lib.lens]
          | cons y r ih =>
            intro hr
            have h3 := ih fun z hz => hr z (List.mem_cons_of_mem _ hz)
            have h4 := hr y List.mem_cons_self
            simp only [Lib.lens, List.map_cons, List.sum_cons, List.length_cons] at h3 ⊢
            omega
        exact this r fun z hz => hl z (List.mem_cons_of_mem _ hz)
      simp only [List.length_cons, List.length_nil]
      omega
  have := hj (cs.map colT) (by intro x hx; simp at hx; obtain ⟨c, hc, rfl⟩ := hx; exact ht c hc)
  rw [List.length_map] at this
  unfold showC
  rw [if_pos h]
  simp only [List.length_append, List.length_cons, List.length_nil]
  omega
theorem show_back {nm : List UInt8} {cs : List Col} (h : chkC nm cs = 0) : (lexR (showC nm cs)).e = 0 ∧ schT (lexR (showC nm cs)).ts = .ok ⟨nm, cs⟩ [] := by
  obtain ⟨ts, h1, h2⟩ := show_read h
  rw [lexR_short (show_len h).2]
  unfold LXis at h1
  rw [h1]
  exact ⟨rfl, h2⟩
end Go.Proofs.YtbehonaegfpmoaaDoor
namespace Go.Proofs.YtbehonaegfpmoaaDoor
open Go.RowKit
set_option linter.unusedVariables false

theorem chk_cases (nm : List UInt8) (cs : List Col) :
    (isNameB nm = false → chkC nm cs = 72) ∧
    (isNameB nm = true → ∀ c ∈ cs, isNameB c.x = false → chkC nm cs = 72) ∧
    (isNameB nm = true → (∀ c ∈ cs, isNameB c.x = true) → 5 < cs.length → chkC nm cs = 81) ∧
    (isNameB nm = true → (∀ c ∈ cs, isNameB c.x = true) → ¬ 5 < cs.length → ∀ c ∈ cs, badK c = true → chkC nm cs = 83) ∧
    (isNameB nm = true → (∀ c ∈ cs, isNameB c.x = true) → ¬ 5 < cs.length → (∀ c ∈ cs, badK c = false) → ∀ k : Nat, againI cs = (k : Int) → chkC nm cs = 82) ∧
    (isNameB nm = true → (∀ c ∈ cs, isNameB c.x = true) → ¬ 5 < cs.length → (∀ c ∈ cs, badK c = false) → againI cs = -1 → chkC nm cs = 0) := by
  have hno : (∀ c ∈ cs, isNameB c.x = true) → (cs.any fun c => !isNameB c.x) = false := fun h => List.any_eq_false.2 fun c hc => by rw [h c hc]; decide
  have hkn : (∀ c ∈ cs, badK c = false) → cs.any badK = false := fun h => List.any_eq_false.2 fun c hc => by rw [h c hc]; decide
  unfold chkC
  refine ⟨fun h => by rw [if_pos h], fun h c hc hx => ?_, fun h h1 h2 => ?_, fun h h1 h2 c hc hx => ?_, fun h h1 h2 h3 k hk => ?_, fun h h1 h2 h3 hk => ?_⟩
  · have : (cs.any fun c => !isNameB c.x) = true := List.any_eq_true.2 ⟨c, hc, by rw [hx]; rfl⟩
    rw [if_neg (by rw [h]; decide), if_pos this]
  · rw [if_neg (by rw [h]; decide), if_neg (by rw [hno h1]; decide), if_pos h2]
  · have : cs.any badK = true := List.any_eq_true.2 ⟨c, hc, hx⟩
    rw [if_neg (by rw [h]; decide), if_neg (by rw [hno h1]; decide), if_neg h2, if_pos this]
  · rw [if_neg (by rw [h]; decide), if_neg (by rw [hno h1]; decide), if_neg h2, if_neg (by rw [hkn h3]; decide), if_pos (by rw [hk]; exact Int.natCast_nonneg k)]
  · rw [if_neg (by rw [h]; decide), if_neg (by rw [hno h1]; decide), if_neg h2, if_neg (by rw [hkn h3]; decide), if_neg (by rw [hk]; decide)]

set_option maxHeartbeats 8000000 in
set_option maxRecDepth 100000 in
theorem refCheck_any (w : World) (nm : ByteArray) (v : Value) (cs : List Col) (h : ColsAt w v cs) (hn : nm.size ≤ 140737488355328) (hc : ∀ c ∈ cs, c.x.length ≤ 140737488355328) :
    Calls Tryd.prog 38 #[.agg #[.string nm, v]] w fun e w' => e = .returned (.int .i64 (chkC nm.data.toList cs)) ∧ Below w.heap.size w w' := by
  have hnot : ∀ (x : Bool) (w : World), (Op.unary .not (.bool x)).run Tryd.prog w = .ok (.bool (!x)) w := fun _ _ => rfl
  obtain ⟨q1, q2, q3, q4, q5, q6⟩ := chk_cases nm.data.toList cs
  have hag : againG ((cs.take 0).map (·.x)) (cs.drop 0) 0 = againI cs := rfl
  obtain ⟨ad, cap, rfl, hnc, hcm⟩ := h.form
  have hln := h.len
  have hb0 : Below w.heap.size w (w.alloc (.cells #[.string nm, .slice ad cs.length cap] 58)) := balloc (Below.refl _ _) _
  have HBX := Lib.hid (Blk.new w 58 #[.string nm, .slice ad cs.length cap])
  have HR := Lib.hid (h.keep hb0)
  have HIN := Lib.hid (fun W => refName_any nm W (by omega))
  have HIC := Lib.hid (fun W (c : Col) (hm : c ∈ cs) => refName_any ⟨c.x.toArray⟩ W (by
    have h1 := hc c hm
    have e : (⟨c.x.toArray⟩ : ByteArray).size = c.x.length := by simp [ByteArray.size]
    omega))
  generalize chkC nm.data.toList cs = RES at *
  have HB0 := Lib.hid hb0
  have Q1 := Lib.hid q1
  have Q2 := Lib.hid q2
  have Q3 := Lib.hid q3
  have Q4 := Lib.hid q4
  have Q5 := Lib.hid q5
  have Q6 := Lib.hid q6
  clear h hn hc hb0 q1 q2 q3 q4 q5 q6
  generalize isNameB nm.data.toList = bn at *
  generalize againI cs = AG at *
  have HAG := Lib.hid hag
  clear hag
  obtain ⟨w0, hw0⟩ : ∃ w0, w.alloc (.cells #[.string nm, .slice ad cs.length cap] 58) = w0 := ⟨_, rfl⟩
  unfold maxLen at hcm
  cases bn with
  | false =>
    have hr := Q1.out rfl
    subst hr
    clear hw0
    go_enter Tryd.func38, Tryd.ntmps38
    go_wp2_with fail
    refine (HIN.out _).mono ?_
    rintro e w2 ⟨rfl, rfl⟩
    go_wp2_with fail
    go_ret
    exact ⟨rfl, HB0.out⟩
  | true =>
    generalize hN : cs.length = n at *
    have HN := Lib.hid hN
    clear hN
    rw [hw0] at HBX HR HB0
    have hx1 := HBX.out.cell 1
    simp only [List.getElem?_toArray, List.getElem?_cons_zero, List.getElem?_cons_succ] at hx1
    have hxl := HBX.out.lt
    have HW0 := Lib.hid hw0
    clear hw0
    go_enter Tryd.func38, Tryd.ntmps38
    go_wp2_with fail
    refine (HIN.out _).mono ?_
    rintro e w2 ⟨rfl, rfl⟩
    rw [HW0.out]
    go_wp2_with fail
    go_loop [3] (fun i => ∃ k : Nat, k ≤ n ∧ i = .int .i64 k ∧ Hid (∀ c ∈ cs.take k, isNameB c.x = true)) (fun i => n - (intOf i).toNat)
    case atStart => exact ⟨0, Nat.zero_le _, rfl, Lib.hid (by simp)⟩
    case round =>
      obtain ⟨k, hk, rfl, HP⟩ := hrel
      by_cases hlt : k < n
      · obtain ⟨c, hc⟩ : ∃ c, cs[k]? = some c := ⟨cs[k]'(by rw [HN.out]; exact hlt), List.getElem?_eq_getElem (by rw [HN.out]; exact hlt)⟩
        obtain ⟨tb, to, tcap, htv, _, _, htbl, t0, t1⟩ := ColsAt.get HR.out hc
        simp only [HN.out, Value.slice.injEq, true_and] at htv
        obtain ⟨rfl, rfl⟩ := htv
        have hm := List.mem_of_getElem? hc
        have hic := HIC.out w0 c hm
        have HM := Lib.hid hm
        have hd : decide ((k : Int) < 0) = false := by simp
        have hd2 : decide ((n : Int) ≤ (k : Int)) = false := by simp; omega
        cases hb : isNameB c.x with
        | false =>
          have hr := Q2.out trivial c hm hb
          subst hr
          rw [show isNameB (⟨c.x.toArray⟩ : ByteArray).data.toList = false from hb] at hic
          have HI := Lib.hid hic
          clear hic hm hb hc
          go_wp2_with fail
          refine HI.out.mono ?_
          rintro e w2 ⟨rfl, rfl⟩
          go_wp2_with fail
          go_ret
          exact ⟨rfl, HB0.out⟩
        | true =>
          rw [show isNameB (⟨c.x.toArray⟩ : ByteArray).data.toList = true from hb] at hic
          have HI := Lib.hid hic
          have HP2 : Hid (∀ c ∈ cs.take (k + 1), isNameB c.x = true) := Lib.hid (by
            rw [List.take_add_one, hc]
            intro d hd'
            simp at hd'
            rcases hd' with h1 | rfl
            · exact HP.out d h1
            · exact hb)
          clear hic hm hb hc
          go_wp2_with fail
          refine HI.out.mono ?_
          rintro e w2 ⟨rfl, rfl⟩
          go_wp2_with fail
          go_round
          case rel => exact ⟨k + 1, by omega, by go_num, HP2⟩
          case measure => simp [intOf]; omega
      · obtain rfl : k = n := by omega
        have hall : ∀ c ∈ cs, isNameB c.x = true := by
          have := HP.out
          rwa [List.take_of_length_le (by rw [HN.out]; exact Nat.le_refl _)] at this
        have HALL := Lib.hid hall
        clear hall
        by_cases h5 : 5 < k
        · have hr := Q3.out trivial HALL.out h5
          subst hr
          have hd : (5 : Int) < (k : Int) := by omega
          have hd2 : ¬ ((k : Int) ≤ 5) := by omega
          go_wp2_with fail
          go_ret
          exact ⟨rfl, HB0.out⟩
        · have hd : ¬ ((5 : Int) < (k : Int)) := by omega
          have hd2 : (k : Int) ≤ 5 := by omega
          have H5 := Lib.hid h5
          clear h5
          go_wp2_with fail
          go_loop [4] (fun i => ∃ j : Nat, j ≤ k ∧ i = .int .i64 j ∧ Hid (∀ c ∈ cs.take j, badK c = false)) (fun i => k - (intOf i).toNat)
          case atStart => exact ⟨0, Nat.zero_le _, rfl, Lib.hid (by simp)⟩
          case round =>
            obtain ⟨j, hj, rfl, HP2⟩ := hrel
            by_cases hlt2 : j < k
            · obtain ⟨c, hc⟩ : ∃ c, cs[j]? = some c := ⟨cs[j]'(by rw [HN.out]; exact hlt2), List.getElem?_eq_getElem (by rw [HN.out]; exact hlt2)⟩
              obtain ⟨tb, to, tcap, htv, _, _, htbl, t0, t1⟩ := ColsAt.get HR.out hc
              simp only [HN.out, Value.slice.injEq, true_and] at htv
              obtain ⟨rfl, rfl⟩ := htv
              have hm := List.mem_of_getElem? hc
              have hdj : decide ((j : Int) < 0) = false := by simp
              have hdj2 : decide ((k : Int) ≤ (j : Int)) = false := by simp; omega
              have hgood : c.k = 1 ∨ c.k = 2 → Hid (∀ c ∈ cs.take (j + 1), badK c = false) := fun hk => Lib.hid (by
                rw [List.take_add_one, hc]
                intro d hd'
                simp at hd'
                rcases hd' with h1 | rfl
                · exact HP2.out d h1
                · unfold badK
                  rcases hk with hk | hk <;> simp [hk])
              by_cases hk1 : c.k = 1
              · have q1 : (c.k != 1) = false := by simp [hk1]
                have HP3 := hgood (.inl hk1)
                clear hgood hm hc hk1
                go_wp2_with fail
                go_round
                case rel => exact ⟨j + 1, by omega, by go_num, HP3⟩
                case measure => simp [intOf]; omega
              · have q1 : (c.k != 1) = true := by simpa using hk1
                by_cases hk2 : c.k = 2
                · have q2 : (c.k != 2) = false := by simp [hk2]
                  have HP3 := hgood (.inr hk2)
                  clear hgood hm hc hk1 hk2
                  go_wp2_with fail
                  go_round
                  case rel => exact ⟨j + 1, by omega, by go_num, HP3⟩
                  case measure => simp [intOf]; omega
                · have q2 : (c.k != 2) = true := by simpa using hk2
                  have hr := Q4.out trivial HALL.out H5.out c hm (by unfold badK; simp [hk1, hk2])
                  subst hr
                  clear hgood hm hc hk1 hk2
                  go_wp2_with fail
                  go_ret
                  exact ⟨rfl, HB0.out⟩
            · obtain rfl : j = k := by omega
              have hallk : ∀ c ∈ cs, badK c = false := by
                have := HP2.out
                rwa [List.take_of_length_le (by rw [HN.out]; exact Nat.le_refl _)] at this
              have HALLK := Lib.hid hallk
              clear hallk HP2
              go_wp2_with fail
              go_loopw [5] (fun i wr => ∃ m : Nat, m ≤ j ∧ i = .int .i64 m ∧ Hid (againG ((cs.take m).map (·.x)) (cs.drop m) m = AG) ∧ Hid (Below w0.heap.size w0 wr)) (fun i _ => j - (intOf i).toNat)
              case atStart => exact ⟨0, Nat.zero_le _, rfl, HAG, Lib.hid (Below.refl _ _)⟩
              case round =>
                obtain ⟨m, hm, rfl, HG, BW⟩ := hrel
                obtain ⟨wo, rfl⟩ : ∃ wo : World, wo = wr := ⟨_, rfl⟩
                have xo := (BW.out.cell (p := ⟨w.heap.size, 1, none⟩) hxl).trans hx1
                have xol : w.heap.size < wo.heap.size := Nat.lt_of_lt_of_le hxl BW.out.size
                by_cases hlt3 : m < j
                · obtain ⟨c, hc⟩ : ∃ c, cs[m]? = some c := ⟨cs[m]'(by rw [HN.out]; exact hlt3), List.getElem?_eq_getElem (by rw [HN.out]; exact hlt3)⟩
                  have HC := Lib.hid hc
                  clear hc
                  go_wp2_with fail
                  go_loopw [6] (fun i wr => ∃ j2 : Nat, j2 ≤ m ∧ i = .int .i64 j2 ∧ Hid (c.x ∉ (cs.take j2).map (·.x)) ∧ Hid (Below w0.heap.size w0 wr)) (fun i _ => m - (intOf i).toNat)
                  case atStart => exact ⟨0, Nat.zero_le _, rfl, Lib.hid (by simp), BW⟩
                  case round =>
                    obtain ⟨j2, hj2, rfl, HNI, BW2⟩ := hrel
                    have xr := (BW2.out.cell (p := ⟨w.heap.size, 1, none⟩) hxl).trans hx1
                    have xrl : w.heap.size < wr.heap.size := Nat.lt_of_lt_of_le hxl BW2.out.size
                    by_cases hlt4 : j2 < m
                    · obtain ⟨d, hd0⟩ : ∃ d, cs[j2]? = some d := ⟨cs[j2]'(by rw [HN.out]; omega), List.getElem?_eq_getElem (by rw [HN.out]; omega)⟩
                      obtain ⟨tb, to, tcap, htv, _, _, htbl, t0, t1⟩ := (ColsAt.keep HR.out BW2.out).get HC.out
                      simp only [HN.out, Value.slice.injEq, true_and] at htv
                      obtain ⟨rfl, rfl⟩ := htv
                      obtain ⟨ub, uo, ucap, huv, _, _, hubl, u0, u1⟩ := (ColsAt.keep HR.out BW2.out).get hd0
                      simp only [HN.out, Value.slice.injEq, Option.some.injEq, Addr.mk.injEq, true_and, and_true] at huv
                      obtain ⟨⟨rfl, rfl⟩, rfl⟩ := huv
                      have hdm : decide ((m : Int) < 0) = false := by simp
                      have hdm2 : decide ((j : Int) ≤ (m : Int)) = false := by simp; omega
                      have hdk : decide ((j2 : Int) < 0) = false := by simp
                      have hdk2 : decide ((j : Int) ≤ (j2 : Int)) = false := by simp; omega
                      by_cases he : c.x = d.x
                      · have q1 : (c.x == d.x) = true := by rw [he]; exact beq_self_eq_true _
                        have hmem : c.x ∈ (cs.take m).map (·.x) := by
                          rw [he]
                          refine List.mem_map.2 ⟨d, ?_, rfl⟩
                          rw [List.mem_take_iff_getElem]
                          exact ⟨j2, by rw [HN.out]; omega, (List.getElem?_eq_some_iff.1 hd0).2⟩
                        have hg := HG.out
                        rw [again_hit HC.out hmem] at hg
                        have hr := Q5.out trivial HALL.out H5.out HALLK.out m hg.symm
                        subst hr
                        clear hmem hg he hd0
                        go_wp2_with fail
                        go_quiet (fail)
                        go_wp2_with fail
                        go_ret
                        exact ⟨rfl, HB0.out.trans ((bdrewN BW2.out _).mono HB0.out.size)⟩
                      · have q1 : (c.x == d.x) = false := by simpa using he
                        have HNI2 : Hid (c.x ∉ (cs.take (j2 + 1)).map (·.x)) := Lib.hid (by
                          rw [List.take_add_one, hd0]
                          intro h1
                          simp only [Option.toList_some, List.map_append, List.map_cons, List.map_nil, List.mem_append, List.mem_singleton] at h1
                          rcases h1 with h1 | h1
                          · exact HNI.out h1
                          · exact he h1)
                        clear he hd0
                        go_wp2_with fail
                        go_quiet (fail)
                        go_wp2_with fail
                        go_roundw
                        case rel => exact ⟨j2 + 1, by omega, by go_num, HNI2, Lib.hid (bdrewN BW2.out _)⟩
                        case measure => simp [intOf]; omega
                    · obtain rfl : j2 = m := by omega
                      have hg := HG.out
                      rw [again_step HC.out HNI.out] at hg
                      have HG2 := Lib.hid hg
                      clear hg
                      go_wp2_with fail
                      go_roundw
                      case rel => exact ⟨j2 + 1, by omega, by go_num, HG2, BW2⟩
                      case measure => simp [intOf]; omega
                · obtain rfl : m = j := by omega
                  have hg := HG.out
                  rw [List.drop_of_length_le (by rw [HN.out]; exact Nat.le_refl _)] at hg
                  unfold againG at hg
                  have hr := Q6.out trivial HALL.out H5.out HALLK.out hg.symm
                  subst hr
                  clear hg
                  go_wp2_with fail
                  go_ret
                  exact ⟨rfl, HB0.out.trans (BW.out.mono HB0.out.size)⟩
end Go.Proofs.YtbehonaegfpmoaaDoor
namespace Go.Proofs.YtbehonaegfpmoaaDoor
open Go.RowKit
set_option linter.unusedVariables false

theorem join_snoc (l : List (List UInt8)) (x sep : List UInt8) (h : l ≠ []) : Lib.join (l ++ [x]) sep = Lib.join l sep ++ sep ++ x := by
  cases l with
  | nil => exact absurd rfl h
  | cons a r =>
    rw [List.cons_append, Lib.join_cons, Lib.join_cons]
    simp [Lib.joinTail]

set_option maxHeartbeats 2000000 in
set_option maxRecDepth 100000 in
theorem refShow_bad (w : World) (nm : ByteArray) (v : Value) (cs : List Col) (h : ColsAt w v cs) (hn : nm.size ≤ 140737488355328) (hc : ∀ c ∈ cs, c.x.length ≤ 140737488355328) (hk : chkC nm.data.toList cs ≠ 0) :
    Calls Tryd.prog 40 #[.agg #[.string nm, v]] w fun e w' => e = .returned (.string ⟨#[]⟩) ∧ Below w.heap.size w w' := by
  have hb0 : Below w.heap.size w (w.alloc (.cells #[.string nm, v] 58)) := balloc (Below.refl _ _) _
  have hch := refCheck_any _ nm v cs (h.keep hb0) hn hc
  have q0 : (chkC nm.data.toList cs != 0) = true := by simpa using hk
  have HC := Lib.hid hch
  have HB0 := Lib.hid hb0
  clear hch hb0 h hn hc hk
  generalize chkC nm.data.toList cs = ch at *
  go_enter Tryd.func40, Tryd.ntmps40
  go_wp2_with fail
  refine HC.out.mono ?_
  rintro e w2 ⟨rfl, hb2⟩
  have HB2 := Lib.hid (HB0.out.trans (hb2.mono (by simp)))
  clear hb2
  go_wp2_with fail
  go_ret
  exact ⟨rfl, HB2.out⟩

set_option maxHeartbeats 8000000 in
set_option maxRecDepth 100000 in
theorem refShow_good (w : World) (nm : ByteArray) (v : Value) (cs : List Col) (h : ColsAt w v cs) (hk : chkC nm.data.toList cs = 0) :
    Calls Tryd.prog 40 #[.agg #[.string nm, v]] w fun e w' => e = .returned (.string ⟨(showC nm.data.toList cs).toArray⟩) ∧ Below w.heap.size w w' := by
  obtain ⟨k1, k2, k3, k4⟩ := chkC_ok hk
  have hnl := nm_len k1
  have hb0 : Below w.heap.size w (w.alloc (.cells #[.string nm, v] 58)) := balloc (Below.refl _ _) _
  have hbx := Blk.new w 58 #[.string nm, v]
  have hch := refCheck_any _ nm v cs (h.keep hb0) (by have : nm.size = nm.data.toList.length := rfl; omega) (fun c hc => by have := nm_len (k2 c hc).1; omega)
  rw [hk] at hch
  obtain ⟨ad, cap, rfl, hnc, hcm⟩ := h.form
  have hnz : nm.size ≤ 16 := hnl.2
  have hcx : ∀ c ∈ cs, c.x.length ≤ 16 ∧ (c.k = 1 ∨ c.k = 2) := fun c hc => ⟨(nm_len (k2 c hc).1).2, by
    have := (k2 c hc).2
    unfold badK at this
    simp only [decide_eq_false_iff_not] at this
    omega⟩
  have hsh : showC nm.data.toList cs = nm.data.toList ++ [40] ++ Lib.join (cs.map colT) [44, 32] ++ [41] := by
    unfold showC
    rw [if_pos hk]
  rw [hsh]
  have HR := Lib.hid h
  have HC := Lib.hid hch
  have HB0 := Lib.hid hb0
  have HBX := Lib.hid hbx
  have HCX := Lib.hid hcx
  unfold maxLen at hcm
  clear h hch hb0 hbx k1 k2 k4 hk hsh hnl hcx
  generalize hN : cs.length = n at *
  have HN := Lib.hid hN
  clear hN
  go_enter Tryd.func40, Tryd.ntmps40
  go_wp2_with fail
  refine HC.out.mono ?_
  rintro e w2 ⟨rfl, hb2⟩
  have HB2 := Lib.hid (HB0.out.trans (hb2.mono (by simp)))
  have hbx2 := HBX.out.below hb2 (by simp)
  have x0 := hbx2.cell 0
  have x1 := hbx2.cell 1
  simp only [List.getElem?_toArray, List.getElem?_cons_zero, List.getElem?_cons_succ] at x0 x1
  have hxl := hbx2.lt
  have hl0 : nm.size + 1 ≤ 9223372036854775807 := by omega
  clear hb2 hbx2 HC
  go_wp2_with fail
  go_loop [3, 4] (fun s i => ∃ (k : Nat) (S : ByteArray), k ≤ n ∧ s = .string S ∧ i = .int .i64 k ∧ S.size ≤ 17 + 23 * k ∧ Hid (S.data.toList = nm.data.toList ++ [40] ++ Lib.join ((cs.take k).map colT) [44, 32])) (fun _ i => n - (intOf i).toNat)
  case atStart => exact ⟨0, nm ++ ⟨#[40]⟩, Nat.zero_le _, rfl, rfl, by rw [ByteArray.size_append, show (⟨#[40]⟩ : ByteArray).size = 1 from rfl]; omega, Lib.hid (by simp [Lib.join_nil])⟩
  case round =>
    obtain ⟨k, S, hk, rfl, rfl, hS, HS⟩ := hrel
    by_cases hkn : k < n
    · obtain ⟨c, hc⟩ : ∃ c, cs[k]? = some c := ⟨cs[k]'(by rw [HN.out]; exact hkn), List.getElem?_eq_getElem (by rw [HN.out]; exact hkn)⟩
      obtain ⟨tb, to, tcap, htv, _, _, htbl, t0, t1⟩ := (ColsAt.keep HR.out HB2.out).get hc
      simp only [HN.out, Value.slice.injEq, true_and] at htv
      obtain ⟨rfl, rfl⟩ := htv
      obtain ⟨hcl, hck⟩ := HCX.out c (List.mem_of_getElem? hc)
      have htk : (cs.take (k + 1)).map colT = (cs.take k).map colT ++ [colT c] := by
        rw [List.take_add_one, hc]
        simp
      have HTK := Lib.hid htk
      have hlk : ((cs.take k).map colT).length = k := by rw [List.length_map, List.length_take, HN.out]; omega
      have HLK := Lib.hid hlk
      have z2 : (⟨#[44, 32]⟩ : ByteArray).size = 2 := rfl
      have z4 : (⟨#[32, 105, 110, 116]⟩ : ByteArray).size = 4 := rfl
      have z5 : (⟨#[32, 116, 101, 120, 116]⟩ : ByteArray).size = 5 := rfl
      have zc : (⟨c.x.toArray⟩ : ByteArray).size = c.x.length := by simp [ByteArray.size]
      have hdk : decide ((k : Int) < 0) = false := by simp
      have hdn : decide ((n : Int) ≤ (k : Int)) = false := by simp; omega
      clear hc htk hlk
      by_cases h0 : k = 0
      · subst h0
        simp only [Nat.zero_mul, Nat.add_zero] at t0 t1
        have e0 : Lib.join ((cs.take (0 + 1)).map colT) [44, 32] = colT c := by
          rw [HTK.out]
          simp [Lib.join_one]
        have E0 := Lib.hid e0
        have b1 : S.size + c.x.length ≤ 9223372036854775807 := by omega
        have b2 : S.size + c.x.length + 4 ≤ 9223372036854775807 := by omega
        have b3 : S.size + c.x.length + 5 ≤ 9223372036854775807 := by omega
        clear e0
        rcases hck with hck | hck
        · have q1 : (c.k == 1) = true := by simp [hck]
          have hct : colT c = c.x ++ [32, 105, 110, 116] := by simp [colT, kindN, hck]
          have HCT := Lib.hid hct
          clear hct hck
          go_wp2_with fail
          go_round
          case rel => exact ⟨0 + 1, _, by omega, rfl, by go_num, by simp only [ByteArray.size_append]; omega, Lib.hid (by rw [E0.out, HCT.out]; simp [HS.out, Lib.join_nil])⟩
          case measure => simp [intOf]; omega
        · have q1 : (c.k == 1) = false := by simp [hck]
          have hct : colT c = c.x ++ [32, 116, 101, 120, 116] := by simp [colT, kindN, hck]
          have HCT := Lib.hid hct
          clear hct hck
          go_wp2_with fail
          go_round
          case rel => exact ⟨0 + 1, _, by omega, rfl, by go_num, by simp only [ByteArray.size_append]; omega, Lib.hid (by rw [E0.out, HCT.out]; simp [HS.out, Lib.join_nil])⟩
          case measure => simp [intOf]; omega
      · have e0 : Lib.join ((cs.take (k + 1)).map colT) [44, 32] = Lib.join ((cs.take k).map colT) [44, 32] ++ [44, 32] ++ colT c := by
          rw [HTK.out]
          refine join_snoc _ _ _ fun e => ?_
          have := HLK.out
          rw [e] at this
          simp at this
          exact h0 this.symm
        have E0 := Lib.hid e0
        have hk0 : decide ((0 : Int) < (k : Int)) = true := by simp; omega
        have b0 : S.size + 2 ≤ 9223372036854775807 := by omega
        have b1 : S.size + 2 + c.x.length ≤ 9223372036854775807 := by omega
        have b2 : S.size + 2 + c.x.length + 4 ≤ 9223372036854775807 := by omega
        have b3 : S.size + 2 + c.x.length + 5 ≤ 9223372036854775807 := by omega
        have hk1 : 0 < k := by omega
        clear e0 h0
        rcases hck with hck | hck
        · have q1 : (c.k == 1) = true := by simp [hck]
          have hct : colT c = c.x ++ [32, 105, 110, 116] := by simp [colT, kindN, hck]
          have HCT := Lib.hid hct
          clear hct hck
          go_wp2_with fail
          go_round
          case rel => exact ⟨k + 1, _, by omega, rfl, by go_num, by simp only [ByteArray.size_append]; omega, Lib.hid (by rw [E0.out, HCT.out]; simp [HS.out])⟩
          case measure => simp [intOf]; omega
        · have q1 : (c.k == 1) = false := by simp [hck]
          have hct : colT c = c.x ++ [32, 116, 101, 120, 116] := by simp [colT, kindN, hck]
          have HCT := Lib.hid hct
          clear hct hck
          go_wp2_with fail
          go_round
          case rel => exact ⟨k + 1, _, by omega, rfl, by go_num, by simp only [ByteArray.size_append]; omega, Lib.hid (by rw [E0.out, HCT.out]; simp [HS.out])⟩
          case measure => simp [intOf]; omega
    · obtain rfl : k = n := by omega
      have hs := HS.out
      rw [List.take_of_length_le (by rw [HN.out]; exact Nat.le_refl _)] at hs
      have HS2 := Lib.hid hs
      have b0 : S.size + 1 ≤ 9223372036854775807 := by omega
      clear hs
      go_wp2_with fail
      go_ret
      have hcc : S ++ ⟨#[41]⟩ = ⟨(nm.data.toList ++ 40 :: (Lib.join (cs.map colT) [44, 32] ++ [41])).toArray⟩ := by
        apply ByteArray.ext
        apply Array.toList_inj.1
        simp [HS2.out]
      refine ⟨?_, HB2.out⟩
      rw [← hcc]
      rfl
end Go.Proofs.YtbehonaegfpmoaaDoor
