/- Texts that are cut into tokens and read back: names, marks, literals, lists; plainly. -/
import Derived.Test.YtgilflkgibfjgaaDoorLc
import Derived.Test.YtgilflkgibfjgaaDoorLf
import Derived.Test.YtgilflkgibfjgaaDoorGa
import Derived.Lib.Join
namespace Go.Proofs.YtgilflkgibfjgaaDoor
open Go.RowKit
set_option linter.unusedVariables false

def LZ (r : List UInt8) (p : Nat) (ts : List Tok) : Prop := LX r p = ⟨ts, 0, 0⟩
def nmZ (x : List UInt8) (p : Nat) : Tok := ⟨1, x, 0, 0, [], p⟩
def mkZ (x : List UInt8) (p : Nat) : Tok := ⟨3, x, 0, 0, [], p⟩
def sepZ (y : List UInt8) : Prop := (letB (bt y 0) || digB (bt y 0)) = false
theorem lz_end (p : Nat) : LZ [] p [endTok p] := LX_end (.inl rfl)
theorem lz_sp {y : List UInt8} {p : Nat} {ts : List Tok} (h : LZ y (p + 1) ts) : LZ (32 :: y) p ts := by
  unfold LZ at h ⊢
  rw [LX_blank (by simp [bt]) (by simp [bt, spB])]
  simpa using h
theorem lz_one {x y : List UInt8} {p : Nat} {ts : List Tok} {t : Tok} (ho : oneS (x ++ y) p = (t, 0)) (hx : t.x = x) (hne : x ≠ []) (h35 : bt x 0 ≠ 35) (hsp : spB (bt x 0) = false) (h : LZ y (p + x.length) ts) : LZ (x ++ y) p (t :: ts) := by
  unfold LZ at h ⊢
  rw [LX_one (not_end_app hne h35) (by rw [bt0_app hne]; exact hsp) (by rw [ho]), ho]
  simp only [hx, List.drop_left]
  rw [h]
  simp
theorem lz_nm {x y : List UInt8} {p : Nat} {ts : List Tok} (hx : isNameB x = true) (hy : sepZ y) (h : LZ y (p + x.length) ts) : LZ (x ++ y) p (nmZ x p :: ts) := by
  unfold isNameB at hx
  simp only [decide_eq_true_eq] at hx
  obtain ⟨h1, h2, h3, h4⟩ := hx
  have hb : ∀ c : Int, letB c = true → c ≠ 35 ∧ spB c = false ∧ c ≠ 58 ∧ c ≠ 34 ∧ digB c = false ∧ c ≠ 45 ∧ c ≠ 40 ∧ c ≠ 41 ∧ c ≠ 44 ∧ c ≠ 43 := by
    intro c hc
    unfold letB at hc
    unfold spB digB
    simp only [decide_eq_true_eq, decide_eq_false_iff_not] at hc ⊢
    omega
  obtain ⟨c1, c2, c3, c4, c5, c6, c7, c8, c9, c10⟩ := hb _ h2
  have hr : nameRun (x ++ y) = x.length := nameRun_app (x := x) (y := y) (rest := []) (by rw [List.append_nil]; exact h3) (fun e => by unfold sepZ at hy; rw [hy] at e; cases e)
  have ho : oneS (x ++ y) p = (nmZ x p, 0) := by
    have b0 := bt0_app (y := y) h1
    unfold oneS
    rw [b0, if_neg c3, if_neg (by rw [c5]; simp [c4, c6]), if_neg (by simp [c6, c7, c8, c9, c10]), if_pos h2, if_neg (by omega), hr, List.take_left]
    rfl
  exact lz_one ho rfl h1 c1 c2 h
theorem lz_mk {c : UInt8} {y : List UInt8} {p : Nat} {ts : List Tok} (hc : c = 40 ∨ c = 41 ∨ c = 44) (h : LZ y (p + 1) ts) : LZ (c :: y) p (mkZ [c] p :: ts) := by
  have ho : oneS ([c] ++ y) p = (mkZ [c] p, 0) := by
    rcases hc with rfl | rfl | rfl <;> simp [oneS, bt, digB, mkZ]
  refine lz_one (x := [c]) ho rfl (by simp) ?_ ?_ h
  · rcases hc with rfl | rfl | rfl <;> simp [bt]
  · rcases hc with rfl | rfl | rfl <;> simp [bt, spB]
theorem lz_turn {y : List UInt8} {p : Nat} {ts : List Tok} (h : LZ y (p + 2) ts) : LZ (58 :: 45 :: y) p (mkZ [58, 45] p :: ts) := by
  have ho : oneS ([58, 45] ++ y) p = (mkZ [58, 45] p, 0) := by simp [oneS, bt, mkZ]
  exact lz_one (x := [58, 45]) ho rfl (by simp) (by simp [bt]) (by simp [bt, spB]) h

/-- A literal in front of what is no digit. -/
theorem scan_showR {k n : Int} {t : List UInt8} (h : validB k n t = true) (h0 : -9223372036854775808 ≤ n) (h1 : n ≤ 9223372036854775807) : scanR (showR k n t) 0 = ⟨k, n, t, (showR k n t).length, 0⟩ ∧ showR k n t ≠ [] ∧ (bt (showR k n t) 0 = 34 ∨ digB (bt (showR k n t) 0) = true ∨ bt (showR k n t) 0 = 45 ∧ digB (bt (showR k n t) 1) = true ∧ 2 ≤ (showR k n t).length) := by
  unfold showR
  rw [if_pos h]
  simp only [validB, decide_eq_true_eq] at h
  rcases h with ⟨rfl, rfl⟩ | ⟨rfl, rfl, ht⟩
  · rw [if_pos rfl]
    refine ⟨scan_itoa n h0 h1, ?_, ?_⟩
    · rcases itoa_cases n with ⟨u, _, e⟩ | ⟨u, _, _, e⟩
      · rw [e]; exact dec_ne u
      · rw [e]; simp
    · have hn := (tok_itoa n).2.2.1
      unfold numAt at hn
      simp only [decide_eq_true_eq] at hn
      rcases hn with ⟨_, h2⟩ | ⟨h1, h2, h3⟩
      · exact .inr (.inl h2)
      · exact .inr (.inr ⟨h2, h3, h1⟩)
  · rw [if_neg (by decide)]
    refine ⟨?_, by simp, .inl (by simp [bt])⟩
    rw [scanR_text]
    unfold textR
    rw [textScan_show]
    simp only
    rw [if_neg (by omega)]
    simp only [List.length_cons, List.length_append, List.length_nil]
    congr 1
    omega
theorem lz_lit {k n : Int} {t y : List UInt8} {p : Nat} {ts : List Tok} (hv : validB k n t = true) (h0 : -9223372036854775808 ≤ n) (h1 : n ≤ 9223372036854775807) (hy : sepZ y) (h : LZ y (p + (showR k n t).length) ts) : LZ (showR k n t ++ y) p (⟨2, showR k n t, k, n, t, p⟩ :: ts) := by
  obtain ⟨e1, e2, e3⟩ := scan_showR hv h0 h1
  have hd : digB (bt y 0) = false := by
    unfold sepZ at hy
    cases hd : digB (bt y 0) with
    | false => rfl
    | true => rw [hd] at hy; simp at hy
  generalize showR k n t = S at *
  have hst := (scan_stable (r := S) (x := S) (rest := []) (y := y) (by simp) e2 (by rw [e1]) (by rw [e1]) (fun e => by rw [hd] at e; cases e)).1
  rw [e1] at hst
  have b0 := bt0_app (y := y) e2
  have hl : litS (S ++ y) p = (⟨2, S, k, n, t, p⟩, 0) := by
    unfold litS
    rw [hst, if_pos rfl]
    simp
  have h58 : bt (S ++ y) 0 ≠ 58 := by
    rw [b0]
    rcases e3 with e | e | ⟨e, _⟩
    · omega
    · intro e'
      rw [e'] at e
      simp [digB] at e
    · omega
  have hq : bt (S ++ y) 0 = 34 ∨ digB (bt (S ++ y) 0) = true ∨ bt (S ++ y) 0 = 45 ∧ digB (bt (S ++ y) 1) = true := by
    rw [b0]
    rcases e3 with e | e | ⟨e, e', e''⟩
    · exact .inl e
    · exact .inr (.inl e)
    · refine .inr (.inr ⟨e, ?_⟩)
      have : bt (S ++ y) 1 = bt S 1 := by
        match S, e'' with
        | a :: b :: l, _ => simp [bt]
      rw [this]
      exact e'
  have ho : oneS (S ++ y) p = (⟨2, S, k, n, t, p⟩, 0) := by
    unfold oneS
    rw [if_neg h58, if_pos hq]
    exact hl
  refine lz_one ho rfl e2 ?_ ?_ h
  · rcases e3 with e | e | ⟨e, _⟩
    · omega
    · intro e'
      rw [e'] at e
      simp [digB] at e
    · omega
  · rcases e3 with e | e | ⟨e, _⟩
    · rw [e]; rfl
    · unfold digB at e
      unfold spB
      simp only [decide_eq_true_eq, decide_eq_false_iff_not] at e ⊢
      omega
    · rw [e]; rfl

section
variable {α β : Type}
/-- An element's text, cut into tokens and read by P, gives the element. -/
def Reads (P : List Tok → PR β) (C : β → α) (T : α → List UInt8) (x : α) : Prop :=
  ∀ (y : List UInt8) (p : Nat) (ts : List Tok), sepZ y → LZ y (p + (T x).length) ts → ∃ (pre : List Tok) (z : β), LZ (T x ++ y) p pre ∧ P pre = .ok z ts ∧ C z = x ∧ isM [41] pre = false
theorem sep_tail {l : List (List UInt8)} {y : List UInt8} (hy : sepZ y) : sepZ (Lib.joinTail [44, 32] l ++ y) := by
  cases l with
  | nil => simpa [Lib.joinTail] using hy
  | cons d r => simp [sepZ, Lib.joinTail, bt, letB, digB]
theorem tail_reads {P : List Tok → PR β} {C : β → α} {T : α → List UInt8} (hl : Less P) : ∀ (xs : List α) (y : List UInt8) (p : Nat) (ts : List Tok), (∀ x ∈ xs, Reads P C T x) → sepZ y → isM [44] ts = false → LZ y (p + (Lib.joinTail [44, 32] (xs.map T)).length) ts →
    ∃ (toks : List Tok) (zs : List β), LZ (Lib.joinTail [44, 32] (xs.map T) ++ y) p toks ∧ zs.map C = xs ∧ ∀ ys, restP P ys toks = .ok (ys ++ zs) ts
  | [], y, p, ts, _, hy, hm, h => ⟨ts, [], by simpa [Lib.joinTail] using h, rfl, fun ys => by rw [restP_end ys hm, List.append_nil]⟩
  | x :: xs, y, p, ts, hr, hy, hm, h => by
    have e : Lib.joinTail [44, 32] ((x :: xs).map T) ++ y = 44 :: 32 :: (T x ++ (Lib.joinTail [44, 32] (xs.map T) ++ y)) := by
      simp [Lib.joinTail]
    have hlen : (Lib.joinTail [44, 32] ((x :: xs).map T)).length = 1 + 1 + (T x).length + (Lib.joinTail [44, 32] (xs.map T)).length := by
      simp [Lib.joinTail]
      omega
    obtain ⟨toks, zs, k1, k2, k3⟩ := tail_reads hl xs y (p + 1 + 1 + (T x).length) ts (fun z hz => hr z (List.mem_cons_of_mem _ hz)) hy hm (by rw [hlen] at h; rw [show p + 1 + 1 + (T x).length + (Lib.joinTail [44, 32] (xs.map T)).length = p + (1 + 1 + (T x).length + (Lib.joinTail [44, 32] (xs.map T)).length) by omega]; exact h)
    obtain ⟨pre, z, j1, j2, j3, _⟩ := hr x List.mem_cons_self _ (p + 1 + 1) toks (sep_tail hy) k1
    refine ⟨mkZ [44] p :: pre, z :: zs, ?_, by rw [List.map_cons, j3, k2], fun ys => ?_⟩
    · rw [e]
      exact lz_mk (.inr (.inr rfl)) (lz_sp j1)
    · have := restP_ok hl ys (c := mkZ [44] p :: pre) (c1 := toks) (x := z) (by simp [isM, mkZ]) (by simpa using j2)
      rw [this.1, k3]
      simp
theorem some_reads {P : List Tok → PR β} {C : β → α} {T : α → List UInt8} (hl : Less P) (x : α) (xs : List α) (y : List UInt8) (p : Nat) (ts : List Tok) (hr : ∀ z ∈ x :: xs, Reads P C T z) (hy : sepZ y) (hm : isM [44] ts = false) (h : LZ y (p + (Lib.join ((x :: xs).map T) [44, 32]).length) ts) :
    ∃ (toks : List Tok) (zs : List β), LZ (Lib.join ((x :: xs).map T) [44, 32] ++ y) p toks ∧ zs.map C = x :: xs ∧ someP P toks = .ok zs ts ∧ isM [41] toks = false := by
  rw [List.map_cons, Lib.join_cons] at h ⊢
  rw [List.length_append, ← Nat.add_assoc] at h
  obtain ⟨toks, zs, k1, k2, k3⟩ := tail_reads hl xs y (p + (T x).length) ts (fun z hz => hr z (List.mem_cons_of_mem _ hz)) hy hm h
  obtain ⟨pre, z, j1, j2, j3, j4⟩ := hr x List.mem_cons_self _ p toks (sep_tail hy) k1
  refine ⟨pre, z :: zs, ?_, by rw [List.map_cons, j3, k2], ?_, j4⟩
  · rw [List.append_assoc]
    exact j1
  · rw [some_ok j2, k3]
    rfl
/-- A list in brackets. -/
theorem list_reads {P : List Tok → PR β} {C : β → α} {T : α → List UInt8} (hl : Less P) (xs : List α) (y : List UInt8) (p : Nat) (ts : List Tok) (hr : ∀ z ∈ xs, Reads P C T z) (h : LZ y (p + 1 + (Lib.join (xs.map T) [44, 32]).length + 1) ts) :
    ∃ (toks : List Tok) (zs : List β), LZ (40 :: (Lib.join (xs.map T) [44, 32] ++ 41 :: y)) p (mkZ [40] p :: toks) ∧ zs.map C = xs ∧ listP P (mkZ [40] p :: toks) = .ok zs ts := by
  have e1 : ∀ r, tk 3 [[40]] (mkZ [40] p :: r) = .ok (mkZ [40] p) r := fun r => by simp [tk, mkZ]
  cases xs with
  | nil =>
    refine ⟨mkZ [41] (p + 1) :: ts, [], ?_, rfl, ?_⟩
    · rw [List.map_nil, Lib.join_nil] at h ⊢
      exact lz_mk (.inl rfl) (lz_mk (.inr (.inl rfl)) h)
    · have := list_none (P := P) (e1 (mkZ [41] (p + 1) :: ts)) (by simp [isM, mkZ])
      simpa using this
  | cons x xs =>
    obtain ⟨toks, zs, k1, k2, k3, k4⟩ := some_reads hl x xs (41 :: y) (p + 1) (mkZ [41] (p + 1 + (Lib.join ((x :: xs).map T) [44, 32]).length) :: ts) hr (by simp [sepZ, bt, letB, digB]) (by simp [isM, mkZ]) (lz_mk (.inr (.inl rfl)) h)
    refine ⟨toks, zs, lz_mk (.inl rfl) k1, k2, ?_⟩
    exact list_ok (u := mkZ [41] (p + 1 + (Lib.join ((x :: xs).map T) [44, 32]).length)) (e1 toks) k4 k3 (by simp [tk, mkZ])
end
end Go.Proofs.YtgilflkgibfjgaaDoor
