/- The laws of tokens, plainly: faults, blanks, tiles, names. -/
import Derived.Test.YthfibaajmbhdkaaDoorLxq
namespace Go.Proofs.YthfibaajmbhdkaaDoor
open Go.RowKit
set_option linter.unusedVariables false

theorem scan_err (l : List UInt8) : (scanR l 0).e ≠ 70 := by
  rw [scan0]
  unfold textR numR
  repeat' split
  all_goals (simp only [bad]; decide)
theorem one_err (r : List UInt8) (p : Int) : (oneS r p).2 ≠ 70 := by
  have := scan_err r
  unfold oneS litS
  repeat' split
  all_goals first | (simp only; assumption) | (simp only; decide)

theorem not_end_app {x y : List UInt8} (hx : x ≠ []) (h : bt x 0 ≠ 35) : ¬ (x ++ y = [] ∨ bt (x ++ y) 0 = 35) := by
  cases x with
  | nil => exact absurd rfl hx
  | cons c x =>
    rintro (e | e)
    · cases e
    · exact h (by simpa [bt] using e)
theorem bt0_app {x y : List UInt8} (hx : x ≠ []) : bt (x ++ y) 0 = bt x 0 := by
  cases x with
  | nil => exact absurd rfl hx
  | cons c x => simp [bt]

/-- One good token in front, whatever may stand behind it. -/
theorem LX_step {x y rest : List UInt8} {p q : Nat} (h : ¬ (x ++ rest = [] ∨ bt (x ++ rest) 0 = 35)) (hb : spB (bt (x ++ rest) 0) = false) (he : (oneS (x ++ rest) p).2 = 0) (hx : (oneS (x ++ rest) p).1.x = x)
    (hc : Behind y rest) : LX (x ++ y) p = if (LX y (p + x.length)).e ≠ 0 then LX y (p + x.length) else ⟨(oneS (x ++ rest) p).1 :: (LX y (p + x.length)).ts, 0, 0⟩ := by
  have hne : x ++ rest ≠ [] := fun e => h (.inl e)
  obtain ⟨l1, _, _⟩ := one_len he hne
  rw [hx] at l1
  have hx0 : x ≠ [] := fun e => by subst e; simp at l1
  rw [bt0_app hx0] at hb
  have h35 : bt x 0 ≠ 35 := fun e => h (.inr (by rw [bt0_app hx0]; exact e))
  have hs := one_stable (y := y) rfl hne he hx hc
  have := LX_one (r := x ++ y) (p := p) (not_end_app hx0 h35) (by rw [bt0_app hx0]; exact hb) (by rw [hs]; exact he)
  rw [hs, hx, List.drop_left] at this
  exact this

theorem one_split {r : List UInt8} {p : Int} (he : (oneS r p).2 = 0) (hr : r ≠ []) : r = (oneS r p).1.x ++ r.drop (oneS r p).1.x.length := by
  obtain ⟨_, h, _⟩ := one_len he hr
  conv => lhs; rw [← List.take_append_drop (oneS r p).1.x.length r]
  rw [← h]

/-- Where a line has a fault: what stands ahead of it is taken, and has the same tokens whatever follows. -/
theorem LX_fault : ∀ (m : Nat) (r : List UInt8) (p : Nat), r.length ≤ m → (LX r p).e ≠ 0 →
    ∃ n ts, (LX r p).at_ = ((p + n : Nat) : Int) ∧ n < r.length ∧ (LX r p).e ≠ 70 ∧ LX (r.take n) p = ⟨ts ++ [endTok (p + n)], 0, 0⟩ ∧
      ∀ more, (LX (r.take n ++ 32 :: more) p).e = 0 → ∃ us, (LX (r.take n ++ 32 :: more) p).ts = ts ++ us := by
  intro m
  induction m with
  | zero =>
    intro r p h he
    have : r = [] := List.length_eq_zero_iff.1 (by omega)
    subst this
    rw [LX_end (.inl rfl)] at he
    exact absurd rfl he
  | succ m ih =>
    intro r p h he
    by_cases h0 : r = [] ∨ bt r 0 = 35
    · rw [LX_end h0] at he
      exact absurd rfl he
    have hr : r ≠ [] := fun e => h0 (.inl e)
    have hl := List.length_pos_iff.2 hr
    by_cases hb : spB (bt r 0) = true
    · rw [LX_blank h0 hb] at he ⊢
      obtain ⟨c, r', rfl⟩ : ∃ c r', r = c :: r' := by
        cases r with
        | nil => exact absurd rfl hr
        | cons c r' => exact ⟨c, r', rfl⟩
      simp only [List.drop_succ_cons, List.drop_zero] at he ⊢
      simp only [List.length_cons] at h
      obtain ⟨n, ts, e1, e2, e3, e4, e5⟩ := ih r' (p + 1) (by omega) he
      have hb0 : bt [c] 0 = bt (c :: r') 0 := by simp [bt]
      have h35 : bt [c] 0 ≠ 35 := fun e => h0 (.inr (by rw [← hb0]; exact e))
      have key : ∀ z, LX (c :: z) p = LX z (p + 1) := by
        intro z
        have := LX_blank (r := [c] ++ z) (p := p) (not_end_app (by simp) h35) (by rw [bt0_app (by simp), hb0]; exact hb)
        simpa using this
      refine ⟨n + 1, ts, by rw [e1]; congr 1; omega, by simp only [List.length_cons]; omega, e3, ?_, fun more hm => ?_⟩
      · rw [List.take_succ_cons, key, e4, Nat.add_assoc, Nat.add_comm 1]
      · rw [List.take_succ_cons, List.cons_append, key] at hm ⊢
        exact e5 more hm
    · have hb' : spB (bt r 0) = false := by simpa using hb
      by_cases hz : (oneS r p).2 = 0
      · have hsp := one_split hz hr
        obtain ⟨l1, _, l3⟩ := one_len hz hr
        generalize hx : (oneS r p).1.x = x at *
        generalize hrest : r.drop x.length = rest at *
        have hstep := fun y (hc : Behind y rest) => LX_step (y := y) (p := p) (q := p) (by rw [← hsp]; exact h0) (by rw [← hsp]; exact hb') (by rw [← hsp]; exact hz) (by rw [← hsp]; exact hx) hc
        have h1 := hstep rest (.inl rfl)
        rw [← hsp] at h1
        have he2 : (LX rest (p + x.length)).e ≠ 0 := by
          rw [h1] at he
          split at he
          · exact he
          · exact absurd rfl he
        rw [h1, if_pos he2]
        have hlen : r.length = x.length + rest.length := by rw [hsp, List.length_append]
        obtain ⟨n, ts, e1, e2, e3, e4, e5⟩ := ih rest (p + x.length) (by omega) he2
        have htk : r.take (x.length + n) = x ++ rest.take n := by rw [hsp, List.take_length_add_append]
        refine ⟨x.length + n, (oneS r p).1 :: ts, by rw [e1]; congr 1; omega, by omega, e3, ?_, fun more hm => ?_⟩
        · rw [htk, hstep (rest.take n) ?_, e4, if_neg (by simp), ← hsp]
          · simp only [List.cons_append]; rw [Nat.add_assoc]
          · cases n with
            | zero => exact .inr (.inr (by simp))
            | succ n =>
              cases rest with
              | nil => simp at e2
              | cons a b => exact .inl (by simp [bt])
        · have hB : Behind (rest.take n ++ 32 :: more) rest := by
            cases n with
            | zero => exact .inr (.inl (by simp [bt]))
            | succ n =>
              cases rest with
              | nil => simp at e2
              | cons a b => exact .inl (by simp [bt])
          rw [htk, List.append_assoc, hstep _ hB, ← hsp] at hm ⊢
          split at hm
          · rename_i hne; exact absurd hm hne
          · rename_i hne
            rw [if_neg hne]
            obtain ⟨us, hus⟩ := e5 more (by simpa using hne)
            exact ⟨us, by simp only [hus, List.cons_append]⟩
      · refine ⟨0, [], ?_, hl, ?_, ?_, fun more hm => ⟨_, (List.nil_append _).symm⟩⟩
        · rw [LX_bad h0 hb' hz]; rfl
        · rw [LX_bad h0 hb' hz]; exact one_err r p
        · rw [List.take_zero, LX_end (.inl rfl)]; rfl

/-- The tokens written with blanks behind each. -/
def render (b : List UInt8) (ts : List Tok) : List UInt8 := ts.flatMap fun t => t.x ++ b
def Tok.same3 (a b : Tok) : Prop := a.k = b.k ∧ a.x = b.x ∧ a.vk = b.vk ∧ a.vn = b.vn ∧ a.vt = b.vt

theorem LX_skip (b y : List UInt8) (hb : ∀ c ∈ b, c = 32 ∨ c = 9) (p : Nat) : LX (b ++ y) p = LX y (p + b.length) := by
  induction b generalizing p with
  | nil => rfl
  | cons c b ih =>
    have hc : spB (bt (c :: (b ++ y)) 0) = true ∧ bt (c :: (b ++ y)) 0 ≠ 35 := by
      rcases hb c (by simp) with rfl | rfl <;> exact ⟨by simp [spB, bt], by simp [bt]⟩
    rw [List.cons_append, LX_blank (fun e => e.elim (fun e => by cases e) hc.2) hc.1]
    simp only [List.drop_succ_cons, List.drop_zero]
    rw [ih (fun d hd => hb d (by simp [hd])), List.length_cons]
    congr 1; omega

theorem one_place {r : List UInt8} (p q : Int) : ((oneS r p).2 = (oneS r q).2) ∧ (oneS r p).1.same3 (oneS r q).1 := by
  unfold oneS litS
  repeat' split
  all_goals exact ⟨rfl, rfl, rfl, rfl, rfl, rfl⟩

/-- Token by token the same but for the places. -/
inductive AlikeT : List Tok → List Tok → Prop
  | nil : AlikeT [] []
  | cons {a b : Tok} {us vs : List Tok} (h : a.same3 b) (hr : AlikeT us vs) : AlikeT (a :: us) (b :: vs)

/-- Written with blanks and a remark behind them, the tokens are the same but for their places. -/
theorem LX_render (b rem : List UInt8) (hb : ∀ c ∈ b, c = 32 ∨ c = 9) (hb32 : b.head? = some 32) : ∀ (m : Nat) (r : List UInt8) (p q : Nat), r.length ≤ m → (LX r p).e = 0 →
    (LX (render b (LX r p).ts ++ 35 :: rem) q).e = 0 ∧ AlikeT (LX r p).ts (LX (render b (LX r p).ts ++ 35 :: rem) q).ts ∧ (render b (LX r p).ts).length ≤ r.length + b.length * (r.length + 1) := by
  intro m
  have hend : ∀ (r : List UInt8) (p q : Nat), (r = [] ∨ bt r 0 = 35) → (LX (render b (LX r p).ts ++ 35 :: rem) q).e = 0 ∧ AlikeT (LX r p).ts (LX (render b (LX r p).ts ++ 35 :: rem) q).ts ∧ (render b (LX r p).ts).length ≤ r.length + b.length * (r.length + 1) := by
    intro r p q h0
    rw [LX_end h0]
    have e : render b [endTok (p + r.length)] = b := by simp [render, endTok]
    simp only [e]
    rw [LX_skip b _ hb, LX_end (.inr (by simp [bt]))]
    refine ⟨rfl, .cons ⟨rfl, rfl, rfl, rfl, rfl⟩ .nil, ?_⟩
    have := Nat.le_mul_of_pos_right b.length (show 0 < r.length + 1 by omega)
    omega
  induction m with
  | zero =>
    intro r p q h he
    exact hend r p q (.inl (List.length_eq_zero_iff.1 (by omega)))
  | succ m ih =>
    intro r p q h he
    by_cases h0 : r = [] ∨ bt r 0 = 35
    · exact hend r p q h0
    have hr : r ≠ [] := fun e => h0 (.inl e)
    have hl := List.length_pos_iff.2 hr
    by_cases hb1 : spB (bt r 0) = true
    · rw [LX_blank h0 hb1] at he ⊢
      obtain ⟨g1, g2, g3⟩ := ih (r.drop 1) (p + 1) q (by rw [List.length_drop]; omega) he
      rw [List.length_drop] at g3
      refine ⟨g1, g2, ?_⟩
      have := Nat.mul_le_mul_left b.length (show r.length - 1 + 1 ≤ r.length + 1 by omega)
      omega
    · have hb' : spB (bt r 0) = false := by simpa using hb1
      by_cases hz : (oneS r p).2 = 0
      · have hsp := one_split hz hr
        obtain ⟨l1, _, l3⟩ := one_len hz hr
        rw [LX_one h0 hb' hz] at he ⊢
        generalize hx : (oneS r p).1.x = x at *
        generalize hrest : r.drop x.length = rest at *
        split at he
        · rename_i hne; exact absurd he hne
        · rename_i hne
          rw [if_neg hne]
          have hne' : (LX rest (p + x.length)).e = 0 := by simpa using hne
          have hlen : r.length = x.length + rest.length := by rw [hsp, List.length_append]
          obtain ⟨g1, g2, g3⟩ := ih rest (p + x.length) (q + x.length + b.length) (by omega) hne'
          have e : render b ((oneS r p).1 :: (LX rest (p + x.length)).ts) = x ++ (b ++ render b (LX rest (p + x.length)).ts) := by
            simp only [render, List.flatMap_cons, hx, List.append_assoc]
          obtain ⟨d1, d2⟩ := one_place (r := r) p q
          have hzq : (oneS r q).2 = 0 := by rw [← d1]; exact hz
          have hxq : (oneS r q).1.x = x := by rw [← hx]; exact d2.2.1.symm
          have hB : Behind (b ++ (render b (LX rest (p + x.length)).ts ++ 35 :: rem)) rest := by
            cases b with
            | nil => cases hb32
            | cons c b =>
              simp only [List.head?_cons, Option.some.injEq] at hb32
              subst hb32
              exact .inr (.inl (by simp [bt]))
          have hstep := LX_step (y := b ++ (render b (LX rest (p + x.length)).ts ++ 35 :: rem)) (p := q) (q := q) (by rw [← hsp]; exact h0) (by rw [← hsp]; exact hb') (by rw [← hsp]; exact hzq) (by rw [← hsp]; exact hxq) hB
          simp only [e]
          rw [List.append_assoc, List.append_assoc, hstep, LX_skip b _ hb, if_neg (by rw [g1]; simp), ← hsp]
          refine ⟨rfl, .cons d2 g2, ?_⟩
          simp only [List.length_append]
          have h5 := Nat.mul_le_mul_left b.length (show rest.length + 1 + 1 ≤ r.length + 1 by omega)
          rw [Nat.mul_add b.length (rest.length + 1) 1, Nat.mul_one] at h5
          omega
      · rw [LX_bad h0 hb' hz] at he
        exact absurd he hz

/-- The tokens tile what stands from a place on. -/
inductive Tiles (l : List UInt8) : Nat → List Tok → Prop
  | last {to m : Nat} (h1 : to ≤ m) (h2 : m ≤ l.length) (hb : ∀ j, to ≤ j → j < m → spB (bt l j) = true) (he : m < l.length → bt l m = 35) : Tiles l to [endTok l.length]
  | more {to p : Nat} {t : Tok} {ts : List Tok} (h1 : to ≤ p) (hp : t.p = p) (hb : ∀ j, to ≤ j → j < p → spB (bt l j) = true) (h2 : p + t.x.length ≤ l.length) (hx : (l.drop p).take t.x.length = t.x) (h3 : 1 ≤ t.x.length) (hk : t.k ≠ 0)
      (hr : Tiles l (p + t.x.length) ts) : Tiles l to (t :: ts)

theorem one_kind {r : List UInt8} {p : Int} : (oneS r p).2 = 0 → (oneS r p).1.k ≠ 0 ∧ (oneS r p).1.p = p := by
  unfold oneS litS
  repeat' split
  all_goals
    intro h
    first
    | exact ⟨by simp, rfl⟩
    | (simp at h; done)
    | contradiction

theorem Tiles.early {l : List UInt8} {to : Nat} {ts : List Tok} (h : Tiles l (to + 1) ts) (hb : spB (bt l to) = true) : Tiles l to ts := by
  have key : ∀ n, (∀ j, to + 1 ≤ j → j < n → spB (bt l j) = true) → ∀ j, to ≤ j → j < n → spB (bt l j) = true := by
    intro n hn j h1 h2
    by_cases e : j = to
    · subst e; exact hb
    · exact hn j (by omega) h2
  cases h with
  | last h1 h2 hb' he => exact .last (by omega) h2 (key _ hb') he
  | more h1 hp hb' h2 hx h3 hk hr => exact .more (by omega) hp (key _ hb') h2 hx h3 hk hr

theorem LX_tiles (l : List UInt8) : ∀ (m to : Nat), to ≤ l.length → l.length - to ≤ m → (LX (l.drop to) to).e = 0 → Tiles l to (LX (l.drop to) to).ts := by
  intro m
  have hend : ∀ to, to ≤ l.length → (l.drop to = [] ∨ bt (l.drop to) 0 = 35) → Tiles l to (LX (l.drop to) to).ts := by
    intro to hto h0
    rw [LX_end h0]
    have e : to + (l.drop to).length = l.length := by rw [List.length_drop]; omega
    rw [e]
    refine .last (m := to) (Nat.le_refl _) hto (fun j h1 h2 => by omega) (fun h => ?_)
    rcases h0 with h0 | h0
    · have := congrArg List.length h0
      rw [List.length_drop] at this
      simp at this
      omega
    · rw [bt_drop] at h0; simpa using h0
  induction m with
  | zero =>
    intro to hto hm he
    exact hend to hto (.inl (by rw [List.drop_of_length_le (by omega)]))
  | succ m ih =>
    intro to hto hm he
    by_cases h0 : l.drop to = [] ∨ bt (l.drop to) 0 = 35
    · exact hend to hto h0
    have hr : l.drop to ≠ [] := fun e => h0 (.inl e)
    have hl : to < l.length := by
      have := List.length_pos_iff.2 hr
      rw [List.length_drop] at this
      omega
    have hbt : bt (l.drop to) 0 = bt l to := by rw [bt_drop]; rfl
    by_cases hb : spB (bt (l.drop to) 0) = true
    · rw [LX_blank h0 hb, List.drop_drop] at he ⊢
      exact (ih (to + 1) (by omega) (by omega) he).early (by rw [← hbt]; exact hb)
    · have hb' : spB (bt (l.drop to) 0) = false := by simpa using hb
      by_cases hz : (oneS (l.drop to) to).2 = 0
      · obtain ⟨l1, l2, l3⟩ := one_len hz hr
        obtain ⟨k1, k2⟩ := one_kind hz
        rw [LX_one h0 hb' hz, List.drop_drop] at he ⊢
        rw [List.length_drop] at l3
        split at he
        · rename_i hne; exact absurd he hne
        · rename_i hne
          rw [if_neg hne]
          exact .more (p := to) (Nat.le_refl _) k2 (fun j h1 h2 => by omega) (by omega) l2.symm l1 k1 (ih _ (by omega) (by omega) (by simpa using hne))
      · rw [LX_bad h0 hb' hz] at he
        exact absurd he hz

/-- A name. -/
def isNameB (l : List UInt8) : Bool := decide (l ≠ [] ∧ letB (bt l 0) = true ∧ nameRun l = l.length ∧ l.length ≤ 16)

/-- A name alone is one token; what is one token of kind Name with the whole text is a name. -/
theorem LX_name {l : List UInt8} (h : isNameB l = true) : LX l 0 = ⟨[⟨1, l, 0, 0, [], 0⟩, endTok l.length], 0, 0⟩ := by
  unfold isNameB at h
  simp only [decide_eq_true_eq] at h
  obtain ⟨h1, h2, h3, h4⟩ := h
  have hb : ∀ c : Int, letB c = true → c ≠ 35 ∧ spB c = false ∧ c ≠ 58 ∧ c ≠ 34 ∧ digB c = false ∧ c ≠ 45 ∧ c ≠ 40 ∧ c ≠ 41 ∧ c ≠ 44 ∧ c ≠ 43 := by
    intro c hc
    unfold letB at hc
    unfold spB digB
    simp only [decide_eq_true_eq, decide_eq_false_iff_not] at hc ⊢
    omega
  obtain ⟨c1, c2, c3, c4, c5, c6, c7, c8, c9, c10⟩ := hb _ h2
  have ho : oneS l (0 : Nat) = (⟨1, l, 0, 0, [], 0⟩, 0) := by
    unfold oneS
    rw [if_neg c3, if_neg (by rw [c5]; simp [c4, c6]), if_neg (by simp [c6, c7, c8, c9, c10]), if_pos h2, if_neg (by omega), h3, List.take_length]
    rfl
  rw [LX_one (fun e => e.elim h1 c1) c2 (by rw [ho]), ho]
  simp only [Nat.zero_add, List.drop_length]
  rw [LX_end (.inl rfl)]
  simp

theorem one_name {r : List UInt8} {p : Int} : (oneS r p).2 = 0 → (oneS r p).1.k = 1 → letB (bt r 0) = true ∧ nameRun r ≤ 16 ∧ (oneS r p).1.x = r.take (nameRun r) := by
  unfold oneS litS
  repeat' split
  all_goals
    intro h g
    first
    | (simp at h; done)
    | (simp at g; done)
    | contradiction
    | exact ⟨by assumption, by omega, rfl⟩

theorem LX_named : ∀ (m : Nat) (r : List UInt8) (p : Nat) (l : List UInt8) (t : Tok) (ts : List Tok), r.length ≤ m → r.length ≤ l.length → (LX r p).ts = t :: ts → t.k = 1 → t.x = l → isNameB l = true := by
  intro m
  induction m with
  | zero =>
    intro r p l t ts h hl ht hk hx
    have : r = [] := List.length_eq_zero_iff.1 (by omega)
    subst this
    rw [LX_end (.inl rfl)] at ht
    cases ht
    simp [endTok] at hk
  | succ m ih =>
    intro r p l t ts h hl ht hk hx
    by_cases h0 : r = [] ∨ bt r 0 = 35
    · rw [LX_end h0] at ht
      cases ht
      simp [endTok] at hk
    have hr : r ≠ [] := fun e => h0 (.inl e)
    have hlp := List.length_pos_iff.2 hr
    by_cases hb : spB (bt r 0) = true
    · rw [LX_blank h0 hb] at ht
      exact ih _ _ l t ts (by rw [List.length_drop]; omega) (by rw [List.length_drop]; omega) ht hk hx
    · have hb' : spB (bt r 0) = false := by simpa using hb
      by_cases hz : (oneS r p).2 = 0
      · rw [LX_one h0 hb' hz] at ht
        split at ht
        · rename_i hne
          rw [(LX_ok _ _ _ (Nat.le_refl _)).2 hne] at ht
          cases ht
        · cases ht
          obtain ⟨a1, a2, a3⟩ := one_name hz hk
          rw [hx] at a3
          have hlen := nameRun_le r
          have h5 := congrArg List.length a3
          rw [List.length_take] at h5
          have h6 : nameRun r = r.length := by omega
          rw [h6, List.take_length] at a3
          subst a3
          unfold isNameB
          simp only [decide_eq_true_eq]
          exact ⟨hr, a1, h6, by omega⟩
      · rw [LX_bad h0 hb' hz] at ht
        cases ht
end Go.Proofs.YthfibaajmbhdkaaDoor
