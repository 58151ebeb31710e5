/- The tokens of a line, plainly: what stands at a place, the whole line; what hangs on what. -/
import Derived.Test.YthfibaajmbhdkaaDoorLx0
import Derived.Test.YthfibaajmbhdkaaDoorPl
namespace Go.Proofs.YthfibaajmbhdkaaDoor
open Go.RowKit
set_option linter.unusedVariables false

/-- A token: kind, text, value, place. -/
structure Tok where
  k : Int
  x : List UInt8
  vk : Int
  vn : Int
  vt : List UInt8
  p : Int

def tok0 : Tok := ⟨0, [], 0, 0, [], 0⟩
def endTok (n : Nat) : Tok := ⟨0, [], 0, 0, [], n⟩

/-- A literal at the front of r, its place told as p. -/
def litS (r : List UInt8) (p : Int) : Tok × Int :=
  if (scanR r 0).e = 0 then (⟨2, r.take (scanR r 0).stop.toNat, (scanR r 0).k, (scanR r 0).n, (scanR r 0).t, p⟩, 0) else (tok0, (scanR r 0).e)

/-- The token at the front of r. -/
def oneS (r : List UInt8) (p : Int) : Tok × Int :=
  if bt r 0 = 58 then (if bt r 1 = 45 then (⟨3, [58, 45], 0, 0, [], p⟩, 0) else (tok0, 71))
  else if bt r 0 = 34 ∨ digB (bt r 0) = true ∨ bt r 0 = 45 ∧ digB (bt r 1) = true then litS r p
  else if bt r 0 = 45 ∨ bt r 0 = 40 ∨ bt r 0 = 41 ∨ bt r 0 = 44 ∨ bt r 0 = 43 then (⟨3, r.take 1, 0, 0, [], p⟩, 0)
  else if letB (bt r 0) = true then (if 16 < nameRun r then (tok0, 72) else (⟨1, r.take (nameRun r), 0, 0, [], p⟩, 0))
  else (tok0, 71)

def spB (c : Int) : Bool := decide (c = 32 ∨ c = 9)

/-- What Tokens tells: the tokens, the place of the fault, which. -/
structure LxR where
  ts : List Tok
  at_ : Int
  e : Int

def lexF : Nat → List UInt8 → Nat → LxR
  | 0, _, _ => ⟨[], 0, 0⟩
  | f + 1, r, p =>
    if r = [] ∨ bt r 0 = 35 then ⟨[endTok (p + r.length)], 0, 0⟩
    else if spB (bt r 0) = true then lexF f (r.drop 1) (p + 1)
    else if (oneS r p).2 ≠ 0 then ⟨[], p, (oneS r p).2⟩
    else
      if (lexF f (r.drop (oneS r p).1.x.length) (p + (oneS r p).1.x.length)).e ≠ 0 then lexF f (r.drop (oneS r p).1.x.length) (p + (oneS r p).1.x.length)
      else ⟨(oneS r p).1 :: (lexF f (r.drop (oneS r p).1.x.length) (p + (oneS r p).1.x.length)).ts, 0, 0⟩

/-- The tokens of r, which stands at p. -/
def LX (r : List UInt8) (p : Nat) : LxR := lexF (r.length + 1) r p

def lexR (l : List UInt8) : LxR := if 16384 < l.length then ⟨[], 0, 70⟩ else LX l 0

theorem text_stop {l t : List UInt8} {n : Nat} (h : textScan l = some (t, n)) : n < l.length := (textScan_good _ _ t n (Nat.le_refl _) h).2

/-- What a good literal at the front is. -/
theorem lit_len {r : List UInt8} {p : Int} (h : (litS r p).2 = 0) (hr : r ≠ []) :
    (scanR r 0).e = 0 ∧ 1 ≤ (scanR r 0).stop ∧ (scanR r 0).stop ≤ r.length := by
  have he : (scanR r 0).e = 0 := by
    unfold litS at h
    split at h
    · assumption
    · exact h
  have g := (scan_good r he).2.2.2.2
  refine ⟨he, ?_, g⟩
  clear h g
  rw [scan0] at he ⊢
  by_cases hp : Lib.hasPrefix r [34] = true
  · rw [if_pos hp] at he ⊢
    unfold textR at he ⊢
    cases hs : textScan (r.drop 1) with
    | none => rw [hs] at he; simp [bad] at he
    | some q =>
      obtain ⟨t, n⟩ := q
      rw [hs] at he
      simp only at he ⊢
      by_cases h64 : 64 < t.length
      · rw [if_pos h64] at he; simp [bad] at he
      · rw [if_neg h64]; simp only; omega
  · rw [if_neg hp] at he ⊢
    by_cases hn : numAt r = true
    · rw [if_pos hn] at he ⊢
      unfold numR at he ⊢
      by_cases hz : bt (Lib.trimPrefix (numTok r 0) [45]) 0 = 48 ∧ 1 < (numTok r 0).length
      · rw [if_pos hz] at he; simp [bad] at he
      · rw [if_neg hz] at he ⊢
        have hlen := numTok_len (l := r) (a := 0) (List.length_pos_iff.2 hr)
        cases hpz : Lib.parseIntB 64 (numTok r 0) with
        | ok v => simp only; omega
        | _ => rw [hpz] at he; simp [bad] at he
    · rw [if_neg hn] at he; simp [bad] at he

theorem nameRun_pos {r : List UInt8} (hr : r ≠ []) (h : letB (bt r 0) = true) : 1 ≤ nameRun r := by
  have := nameRun_step (l := r) (k := 0) (List.length_pos_iff.2 hr) (by rw [h]; rfl)
  rw [List.drop_zero] at this
  omega

theorem bt_cons0 (c : UInt8) (r : List UInt8) : bt (c :: r) 0 = c.toNat := by simp [bt]
theorem bt_cons1 (c : UInt8) (r : List UInt8) (k : Nat) : bt (c :: r) (k + 1) = bt r k := by simp [bt]

/-- A good token's text stands at the front, and isn't empty. -/
theorem one_len {r : List UInt8} {p : Int} (h : (oneS r p).2 = 0) (hr : r ≠ []) :
    1 ≤ (oneS r p).1.x.length ∧ (oneS r p).1.x = r.take (oneS r p).1.x.length ∧ (oneS r p).1.x.length ≤ r.length := by
  have hl := List.length_pos_iff.2 hr
  unfold oneS at *
  split at h
  · rename_i h58
    rw [if_pos h58]
    split at h
    · rename_i h45
      rw [if_pos h45]
      match r, hr with
      | [a], _ => simp [bt] at h45
      | a :: b :: r, _ =>
        rw [bt_cons0] at h58
        rw [show (1 : Nat) = 0 + 1 from rfl, bt_cons1, bt_cons0] at h45
        have ha : a = 58 := UInt8.toNat_inj.1 (show a.toNat = 58 by omega)
        have hb : b = 45 := UInt8.toNat_inj.1 (show b.toNat = 45 by omega)
        subst ha hb
        exact ⟨by simp, by simp, by simp⟩
    · simp at h
  · rename_i h58
    rw [if_neg h58]
    split at h
    · rename_i hq
      rw [if_pos hq]
      obtain ⟨he, h1, h2⟩ := lit_len h hr
      unfold litS
      rw [if_pos he]
      simp only [List.length_take]
      refine ⟨by omega, ?_, by omega⟩
      rw [Nat.min_eq_left (by omega)]
    · rename_i hq
      rw [if_neg hq]
      split at h
      · rename_i hm
        rw [if_pos hm]
        simp only [List.length_take]
        refine ⟨by omega, ?_, by omega⟩
        rw [Nat.min_eq_left (by omega)]
      · rename_i hm
        rw [if_neg hm]
        split at h
        · rename_i ht
          rw [if_pos ht]
          split at h
          · simp at h
          · rename_i h16
            rw [if_neg h16]
            have := nameRun_pos hr ht
            have := nameRun_le r
            simp only [List.length_take]
            refine ⟨by omega, ?_, by omega⟩
            rw [Nat.min_eq_left (by omega)]
        · simp at h

/-- More fuel than bytes changes nothing. -/
theorem lexF_more : ∀ (f g : Nat) (r : List UInt8) (p : Nat), r.length < f → r.length < g → lexF f r p = lexF g r p := by
  intro f
  induction f with
  | zero => intro g r p h; omega
  | succ f ih =>
    intro g r p hf hg
    cases g with
    | zero => omega
    | succ g =>
      unfold lexF
      split
      · rfl
      · rename_i h0
        have hr : r ≠ [] := fun e => h0 (.inl e)
        have hl := List.length_pos_iff.2 hr
        split
        · exact ih _ _ _ (by rw [List.length_drop]; omega) (by rw [List.length_drop]; omega)
        · split
          · rfl
          · rename_i h2
            have h3 := (one_len (r := r) (p := p) (by simpa using h2) hr).1
            rw [ih g _ _ (by rw [List.length_drop]; omega) (by rw [List.length_drop]; omega)]

theorem LX_end {r : List UInt8} {p : Nat} (h : r = [] ∨ bt r 0 = 35) : LX r p = ⟨[endTok (p + r.length)], 0, 0⟩ := by
  unfold LX lexF
  rw [if_pos h]
theorem LX_blank {r : List UInt8} {p : Nat} (h : ¬ (r = [] ∨ bt r 0 = 35)) (hb : spB (bt r 0) = true) : LX r p = LX (r.drop 1) (p + 1) := by
  have hl := List.length_pos_iff.2 (show r ≠ [] from fun e => h (.inl e))
  unfold LX
  conv => lhs; unfold lexF
  rw [if_neg h, if_pos hb]
  exact lexF_more _ _ _ _ (by rw [List.length_drop]; omega) (by omega)
theorem LX_bad {r : List UInt8} {p : Nat} (h : ¬ (r = [] ∨ bt r 0 = 35)) (hb : spB (bt r 0) = false) (he : (oneS r p).2 ≠ 0) : LX r p = ⟨[], p, (oneS r p).2⟩ := by
  unfold LX lexF
  rw [if_neg h, if_neg (by rw [hb]; simp), if_pos he]
theorem LX_one {r : List UInt8} {p : Nat} (h : ¬ (r = [] ∨ bt r 0 = 35)) (hb : spB (bt r 0) = false) (he : (oneS r p).2 = 0) :
    LX r p = if (LX (r.drop (oneS r p).1.x.length) (p + (oneS r p).1.x.length)).e ≠ 0 then LX (r.drop (oneS r p).1.x.length) (p + (oneS r p).1.x.length)
      else ⟨(oneS r p).1 :: (LX (r.drop (oneS r p).1.x.length) (p + (oneS r p).1.x.length)).ts, 0, 0⟩ := by
  have hr : r ≠ [] := fun e => h (.inl e)
  have hl := List.length_pos_iff.2 hr
  have h3 := (one_len (r := r) (p := p) he hr).1
  have e := lexF_more r.length ((r.drop (oneS r p).1.x.length).length + 1) (r.drop (oneS r p).1.x.length) (p + (oneS r p).1.x.length) (by rw [List.length_drop]; omega) (by omega)
  unfold LX
  conv => lhs; unfold lexF
  rw [if_neg h, if_neg (by rw [hb]; simp), if_neg (by simpa using he), e]

/-- The tokens so far and what follows, joined. -/
def LxR.behind (a : LxR) (acc : List Tok) : LxR := if a.e ≠ 0 then a else ⟨acc ++ a.ts, a.at_, a.e⟩
theorem behind_nil (r : List UInt8) (p : Nat) : (LX r p).behind [] = LX r p := by
  unfold LxR.behind
  split
  · rfl
  · rfl
theorem LX_ok : ∀ (m : Nat) (r : List UInt8) (p : Nat), r.length ≤ m → ((LX r p).e = 0 → (LX r p).at_ = 0) ∧ ((LX r p).e ≠ 0 → (LX r p).ts = []) := by
  intro m
  induction m with
  | zero =>
    intro r p h
    have : r = [] := List.length_eq_zero_iff.1 (by omega)
    subst this
    rw [LX_end (.inl rfl)]
    exact ⟨fun _ => rfl, fun h => absurd rfl h⟩
  | succ m ih =>
    intro r p h
    by_cases h0 : r = [] ∨ bt r 0 = 35
    · rw [LX_end h0]
      exact ⟨fun _ => rfl, fun h => absurd rfl h⟩
    · have hr : r ≠ [] := fun e => h0 (.inl e)
      have hl := List.length_pos_iff.2 hr
      by_cases hb : spB (bt r 0) = true
      · rw [LX_blank h0 hb]
        exact ih _ _ (by rw [List.length_drop]; omega)
      · have hb' : spB (bt r 0) = false := by simpa using hb
        by_cases he : (oneS r p).2 = 0
        · have h3 := (one_len he hr).1
          have := ih (r.drop (oneS r p).1.x.length) (p + (oneS r p).1.x.length) (by rw [List.length_drop]; omega)
          rw [LX_one h0 hb' he]
          split
          · exact this
          · exact ⟨fun _ => rfl, fun h => absurd rfl h⟩
        · rw [LX_bad h0 hb' he]
          exact ⟨fun h => absurd h he, fun _ => rfl⟩
theorem behind_one {r : List UInt8} {p : Nat} (acc : List Tok) (h : ¬ (r = [] ∨ bt r 0 = 35)) (hb : spB (bt r 0) = false) (he : (oneS r p).2 = 0) :
    (LX r p).behind acc = (LX (r.drop (oneS r p).1.x.length) (p + (oneS r p).1.x.length)).behind (acc ++ [(oneS r p).1]) := by
  rw [LX_one h hb he]
  have hk := LX_ok _ (r.drop (oneS r p).1.x.length) (p + (oneS r p).1.x.length) (Nat.le_refl _)
  generalize LX (r.drop (oneS r p).1.x.length) (p + (oneS r p).1.x.length) = R at *
  unfold LxR.behind
  by_cases h2 : R.e = 0
  · rw [if_neg (show ¬ R.e ≠ 0 by simpa using h2), if_neg (show ¬ R.e ≠ 0 by simpa using h2), if_neg (by simp), hk.1 h2, h2]
    simp
  · rw [if_pos h2, if_pos h2, if_pos h2]

theorem behind_bad {r : List UInt8} {p : Nat} (acc : List Tok) (h : ¬ (r = [] ∨ bt r 0 = 35)) (hb : spB (bt r 0) = false) (he : (oneS r p).2 ≠ 0) : (LX r p).behind acc = ⟨[], p, (oneS r p).2⟩ := by
  rw [LX_bad h hb he]
  unfold LxR.behind
  rw [if_pos he]
theorem behind_end {r : List UInt8} {p : Nat} (acc : List Tok) (h : r = [] ∨ bt r 0 = 35) : (LX r p).behind acc = ⟨acc ++ [endTok (p + r.length)], 0, 0⟩ := by
  rw [LX_end h]
  unfold LxR.behind
  rw [if_neg (by simp)]
end Go.Proofs.YthfibaajmbhdkaaDoor
