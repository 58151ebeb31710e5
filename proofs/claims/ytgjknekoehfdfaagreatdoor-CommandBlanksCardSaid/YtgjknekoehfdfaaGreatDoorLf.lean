/- osierlaw07.awake, walked; how told tokens lie. osierlaw07.LexFaults, walked. osierref07.among, run, IsName, walked. -/
import Derived.Test.YtgjknekoehfdfaaGreatDoorLd
import Derived.Test.YtgjknekoehfdfaaGreatDoorLc
import Derived.KernelRfl
import Derived.Laws.OwnMore
import Derived.BigQuiet
namespace Go.Proofs.YtgjknekoehfdfaaGreatDoor
open Go.RowKit
set_option linter.unusedVariables false

theorem lex_a : lexR [97, 44] = ⟨[⟨1, [97], 0, 0, [], 0⟩, ⟨3, [44], 0, 0, [], 1⟩, endTok 2], 0, 0⟩ := by kernel_rfl
theorem name_a : isNameB [97] = true := by kernel_rfl

/-- The told tokens, taken apart: at least one. -/
theorem own_some {w : World} {base : Nat} {e : TypeId} {a : Option Addr} {n cap : Nat} {xs : List Value} (h : w.ownsRow base e 6 (.slice a n cap) n xs) (hn : 0 < n) : ∃ g, a = some ⟨g, 0, none⟩ ∧ base ≤ g ∧ g < w.heap.size := by
  obtain ⟨g, c, hv, hb, hg⟩ := h.form hn
  injection hv with h1 _ _
  exact ⟨g, h1, hb, hg⟩

theorem tokens_a (w : World) (hg : Glob w) :
    Calls Tryz.prog 86 #[.string ⟨#[97, 44]⟩] w fun e w' => ∃ g cap, e = .returned (.tuple #[.slice (some ⟨g, 0, none⟩) 3 cap, .int .i64 0, .int .i64 0]) ∧ Below w.heap.size w w' ∧
      w'.cell? ⟨g, 1, none⟩ = some (.string ⟨#[97]⟩) ∧ w'.cell? ⟨g, 6, none⟩ = some (.int .i64 3) ∧ w'.cell? ⟨g, 17, none⟩ = some (.int .i64 2) := by
  have h := tokens_any ⟨#[97, 44]⟩ w (by decide) hg
  rw [show lexR (ByteArray.mk #[97, 44]).data.toList = _ from lex_a] at h
  refine h.mono ?_
  rintro e w' ⟨a, cap, he, hown, hb⟩
  simp only [List.length_cons, List.length_nil] at he hown
  obtain ⟨g, rfl, _, _⟩ := own_some hown (by decide)
  have c1 := hown.cellAt 1 (by decide)
  have c6 := hown.cellAt 6 (by decide)
  have c15 := hown.cellAt 17 (by decide)
  exact ⟨g, cap, he, hb, c1, c6, c15⟩

end Go.Proofs.YtgjknekoehfdfaaGreatDoor
namespace Go.Proofs.YtgjknekoehfdfaaGreatDoor
open Go.RowKit
set_option linter.unusedVariables false

theorem lexR_short {l : List UInt8} (h : l.length ≤ 16384) : lexR l = LX l 0 := by unfold lexR; rw [if_neg (by omega)]
theorem lexR_long {l : List UInt8} (h : 16384 < l.length) : lexR l = ⟨[], 0, 70⟩ := by unfold lexR; rw [if_pos h]

/-- Not more tokens than bytes, but for the end. -/
theorem LX_count : ∀ (m : Nat) (r : List UInt8) (p : Nat), r.length ≤ m → (LX r p).ts.length ≤ r.length + 1 := by
  intro m
  induction m with
  | zero =>
    intro r p h
    have : r = [] := List.length_eq_zero_iff.1 (by omega)
    subst this
    rw [LX_end (.inl rfl)]
    simp
  | succ m ih =>
    intro r p h
    by_cases h0 : r = [] ∨ bt r 0 = 35
    · rw [LX_end h0]; simp
    · have hr : r ≠ [] := fun e => h0 (.inl e)
      have hl := List.length_pos_iff.2 hr
      by_cases hb : spB (bt r 0) = true
      · rw [LX_blank h0 hb]
        have := ih (r.drop 1) (p + 1) (by rw [List.length_drop]; omega)
        rw [List.length_drop] at this
        omega
      · have hb' : spB (bt r 0) = false := by simpa using hb
        by_cases hz : (oneS r p).2 = 0
        · obtain ⟨l1, _, l3⟩ := one_len hz hr
          have := ih (r.drop (oneS r p).1.x.length) (p + (oneS r p).1.x.length) (by rw [List.length_drop]; omega)
          rw [List.length_drop] at this
          rw [LX_one h0 hb' hz]
          split
          · omega
          · simp only [List.length_cons]; omega
        · rw [LX_bad h0 hb' hz]; simp
theorem lexR_count (l : List UInt8) : (lexR l).ts.length ≤ l.length + 1 := by
  by_cases h : 16384 < l.length
  · rw [lexR_long h]; simp
  · rw [lexR_short (by omega)]; exact LX_count _ l 0 (Nat.le_refl _)

theorem fault_plain (l : List UInt8) : ((lexR l).e = 0 ∧ (lexR l).at_ = 0) ∨ ((lexR l).e = 70 ∧ (lexR l).at_ = 0 ∧ 16384 < l.length) ∨
    ((lexR l).e ≠ 0 ∧ (lexR l).e ≠ 70 ∧ ∃ n ts, (lexR l).at_ = ((n : Nat) : Int) ∧ n < l.length ∧ l.length ≤ 16384 ∧ lexR (l.take n) = ⟨ts ++ [endTok n], 0, 0⟩ ∧
      ∀ more, (lexR (l.take n ++ 32 :: more)).e = 0 → ∃ us, (lexR (l.take n ++ 32 :: more)).ts = ts ++ us) := by
  by_cases h : 16384 < l.length
  · rw [lexR_long h]; exact .inr (.inl ⟨rfl, rfl, h⟩)
  · have hl : l.length ≤ 16384 := by omega
    rw [lexR_short hl]
    by_cases he : (LX l 0).e = 0
    · exact .inl ⟨he, (LX_ok _ l 0 (Nat.le_refl _)).1 he⟩
    · obtain ⟨n, ts, e1, e2, e3, e4, e5⟩ := LX_fault _ l 0 (Nat.le_refl _) he
      refine .inr (.inr ⟨he, e3, n, ts, by rw [e1, Nat.zero_add], e2, hl, ?_, fun more hm => ?_⟩)
      · rw [lexR_short (by rw [List.length_take]; omega), e4, Nat.zero_add]
      · by_cases hlong : 16384 < (l.take n ++ 32 :: more).length
        · rw [lexR_long hlong] at hm; simp at hm
        · rw [lexR_short (by omega)] at hm ⊢
          exact e5 more hm

/-- The cells of the token at a place. -/
theorem tcells_atj : ∀ (ts : List Tok) (i : Nat) (t : Tok) (j : Nat), ts[i]? = some t → j < 6 → (tcells ts)[i * 6 + j]? = t.cells[j]? := by
  intro ts
  induction ts with
  | nil => intro i t j h; simp at h
  | cons a ts ih =>
    intro i t j h hj
    have e : tcells (a :: ts) = a.cells ++ tcells ts := by simp [tcells]
    rw [e]
    have hl : a.cells.length = 6 := rfl
    cases i with
    | zero =>
      simp only [List.getElem?_cons_zero, Option.some.injEq] at h
      subst h
      rw [Nat.zero_mul, Nat.zero_add, List.getElem?_append_left (by omega)]
    | succ i =>
      rw [List.getElem?_cons_succ] at h
      rw [List.getElem?_append_right (by omega), ← ih i t j h hj, hl]
      congr 1
      omega

/-- Where a told token lies. -/
theorem own_tok {w : World} {base : Nat} {e : TypeId} {g n cap : Nat} {ts : List Tok} (h : w.ownsRow base e 6 (.slice (some ⟨g, 0, none⟩) n cap) n (tcells ts)) (hn : ts.length = n) {i : Nat} {t : Tok} (ht : ts[i]? = some t) :
    w.cell? ⟨g, i * 6, none⟩ = some (.int .i64 t.k) ∧ w.cell? ⟨g, i * 6 + 1, none⟩ = some (.string ⟨t.x.toArray⟩) ∧ w.cell? ⟨g, i * 6 + 2, none⟩ = some (.int .i64 t.vk) ∧ w.cell? ⟨g, i * 6 + 3, none⟩ = some (.int .i64 t.vn) ∧
      w.cell? ⟨g, i * 6 + 4, none⟩ = some (.string ⟨t.vt.toArray⟩) ∧ w.cell? ⟨g, i * 6 + 5, none⟩ = some (.int .i64 t.p) := by
  have hi : i < n := by rw [← hn]; exact (List.getElem?_eq_some_iff.1 ht).1
  have key : ∀ j, j < 6 → w.cell? ⟨g, i * 6 + j, none⟩ = t.cells[j]? := fun j hj => by
    rw [h.cellAt (i * 6 + j) (by omega), tcells_atj ts i t j ht hj]
  exact ⟨key 0 (by decide), key 1 (by decide), key 2 (by decide), key 3 (by decide), key 4 (by decide), key 5 (by decide)⟩

theorem faults_bytes (s more : ByteArray) (n : Nat) : (s.extract 0 n ++ ByteArray.mk #[32] ++ more).data.toList = s.data.toList.take n ++ 32 :: more.data.toList := by simp
theorem faults_take (s : ByteArray) (n : Nat) : (s.extract 0 n).data.toList = s.data.toList.take n := by simp

end Go.Proofs.YtgjknekoehfdfaaGreatDoor
namespace Go.Proofs.YtgjknekoehfdfaaGreatDoor
open Go.RowKit
set_option linter.unusedVariables false

def amongB (l : List UInt8) (c : Int) : Bool := l.any fun d => (d.toNat : Int) == c
theorem amongB_nil (c : Int) : amongB [] c = false := rfl
theorem amongB_step {l : List UInt8} {k : Nat} (c : Int) (hk : k < l.length) : amongB (l.drop k) c = ((bt l k == c) || amongB (l.drop (k + 1)) c) := by
  unfold amongB
  rw [List.drop_eq_getElem_cons hk, List.any_cons]
  have e : bt l k = (l[k].toNat : Int) := by simp [bt, hk]
  rw [e]

set_option maxHeartbeats 4000000 in
theorem among_any (c : Int) (s : ByteArray) (w : World) (hs : s.size ≤ 281474976710656) :
    Calls Tryz.prog 148 #[.int .u8 c, .string s] w fun e w' => e = .returned (.bool (amongB s.data.toList c)) ∧ w = w' := by
  have hsl : s.data.toList.length = s.size := rfl
  have HSL := Lib.hid hsl
  clear hsl
  generalize hL : s.data.toList = l at *
  have HL := Lib.hid hL
  clear hL
  go_enter Tryz.func148, Tryz.ntmps148
  go_wp2_with fail
  go_loop [5] (fun ix => ∃ k : Nat, k ≤ s.size ∧ ix = .int .i64 k ∧ amongB (l.drop k) c = amongB l c) (fun ix => s.size - (intOf ix).toNat)
  case atStart => exact ⟨0, Nat.zero_le _, rfl, rfl⟩
  case round =>
    obtain ⟨k, hk, rfl, hrel⟩ := hrel
    have HR := Lib.hid hrel
    clear hrel
    by_cases hlt : k < s.size
    · have hbt := bt_of s k hlt
      rw [HL.out] at hbt
      have hkl : k < l.length := by have := HSL.out; omega
      have hst := amongB_step c hkl
      by_cases hq : bt l k = c
      · have q : (bt l k == c) = true := by simpa using hq
        rw [q, Bool.true_or] at hst
        have HE : Hid (amongB l c = true) := Lib.hid (by rw [← HR.out, hst])
        clear hst hq
        go_wp2_with fail
        go_ret
        exact ⟨by rw [HE.out]; rfl, rfl⟩
      · have q : (bt l k == c) = false := by simpa using hq
        rw [q, Bool.false_or] at hst
        have HE : Hid (amongB (l.drop (k + 1)) c = amongB l c) := Lib.hid (by rw [← HR.out, hst])
        clear hst hq
        go_wp2_with fail
        go_round
        case rel => exact ⟨k + 1, by omega, by go_num, HE.out⟩
        case measure => simp [intOf]; omega
    · have hke : k = s.size := by omega
      subst hke
      have HE : Hid (amongB l c = false) := Lib.hid (by rw [← HR.out, List.drop_of_length_le (by have := HSL.out; omega)]; rfl)
      go_wp2_with fail
      go_ret
      exact ⟨by rw [HE.out]; rfl, rfl⟩

/-- How many bytes of the set stand at the front. -/
def runB (st l : List UInt8) : Nat := (l.takeWhile fun c => amongB st c.toNat).length
theorem runB_step {st l : List UInt8} {k : Nat} (hk : k < l.length) (hd : amongB st (bt l k) = true) : runB st (l.drop k) = 1 + runB st (l.drop (k + 1)) := by
  unfold runB
  rw [List.drop_eq_getElem_cons hk]
  have e : bt l k = (l[k].toNat : Int) := by simp [bt, hk]
  rw [e] at hd
  rw [List.takeWhile_cons, if_pos hd, List.length_cons]
  omega
theorem runB_stop {st l : List UInt8} {k : Nat} (hk : k < l.length) (hd : amongB st (bt l k) = false) : runB st (l.drop k) = 0 := by
  unfold runB
  rw [List.drop_eq_getElem_cons hk]
  have e : bt l k = (l[k].toNat : Int) := by simp [bt, hk]
  rw [e] at hd
  rw [List.takeWhile_cons, if_neg (by rw [hd]; simp)]
  rfl
theorem runB_le (st l : List UInt8) : runB st l ≤ l.length := by
  unfold runB
  exact (List.takeWhile_sublist _).length_le

set_option maxHeartbeats 4000000 in
theorem run_any (s : ByteArray) (i : Nat) (st : ByteArray) (w : World) (hi : i ≤ s.size) (hs : s.size ≤ 281474976710656) (hst : st.size ≤ 281474976710656) :
    Calls Tryz.prog 149 #[.string s, .int .i64 i, .string st] w fun e w' => e = .returned (.int .i64 (runB st.data.toList (s.data.toList.drop i) : Nat)) ∧ w = w' := by
  have hsl : s.data.toList.length = s.size := rfl
  have HSL := Lib.hid hsl
  have HAM := Lib.hid (fun c W => among_any c st W hst)
  clear hsl
  generalize hL : s.data.toList = l at *
  have HL := Lib.hid hL
  clear hL
  generalize st.data.toList = sl at *
  go_enter Tryz.func149, Tryz.ntmps149
  go_wp2_with fail
  go_loop [7] (fun ix => ∃ k : Nat, i + k ≤ s.size ∧ ix = .int .i64 k ∧ runB sl (l.drop i) = k + runB sl (l.drop (i + k))) (fun ix => s.size - (intOf ix).toNat)
  case atStart => exact ⟨0, by omega, rfl, by simp⟩
  case round =>
    obtain ⟨k, hk, rfl, hrel⟩ := hrel
    have HR := Lib.hid hrel
    clear hrel
    by_cases hlt : i + k < s.size
    · have hlt' : (i : Int) + (k : Int) < (s.size : Int) := by omega
      have hbt := bt_of s (i + k) hlt
      rw [HL.out] at hbt
      have hkl : i + k < l.length := by have := HSL.out; omega
      have htn : ((i : Int) + (k : Int)).toNat = i + k := by omega
      have h0 : 0 ≤ (i : Int) + (k : Int) := by omega
      cases hq : amongB sl (bt l (i + k)) with
      | true =>
        have HE := Lib.hid (runB_step hkl hq)
        go_wp2_with (go_at_call 148; refine (HAM.out _ _).mono ?_; rintro e w' ⟨rfl, rfl⟩)
        go_round
        case rel => exact ⟨k + 1, by omega, by go_num, by have h1 := HE.out; have h2 := HR.out; rw [h2, h1, Nat.add_assoc i k 1]; omega⟩
        case measure => simp [intOf]; omega
      | false =>
        have HE : Hid (runB sl (l.drop i) = k) := Lib.hid (by have h1 := HR.out; rw [runB_stop hkl hq] at h1; omega)
        go_wp2_with (go_at_call 148; refine (HAM.out _ _).mono ?_; rintro e w' ⟨rfl, rfl⟩)
        go_ret
        exact ⟨by rw [HE.out]; rfl, rfl⟩
    · have hke : ¬ (i : Int) + (k : Int) < (s.size : Int) := by omega
      have HE : Hid (runB sl (l.drop i) = k) := Lib.hid (by
        have h1 := HR.out
        rw [List.drop_of_length_le (show l.length ≤ i + k by have := HSL.out; omega)] at h1
        exact h1)
      go_wp2_with fail
      go_ret
      exact ⟨by rw [HE.out]; rfl, rfl⟩

def setL : List UInt8 := [97, 98, 99, 100, 101, 102, 103, 104, 105, 106, 107, 108, 109, 110, 111, 112, 113, 114, 115, 116, 117, 118, 119, 120, 121, 122, 65, 66, 67, 68, 69, 70, 71, 72, 73, 74, 75, 76, 77, 78, 79, 80, 81, 82, 83, 84, 85, 86, 87, 88, 89, 90, 95]
def setD : List UInt8 := [48, 49, 50, 51, 52, 53, 54, 55, 56, 57]
theorem of_fin {P : Int → Prop} (h : ∀ u : Fin 256, P (u.val : Int)) {c : Int} (h0 : 0 ≤ c) (h1 : c ≤ 255) : P c := by
  have := h ⟨c.toNat, by omega⟩
  simpa [Int.toNat_of_nonneg h0] using this
theorem among_letters {c : Int} (h0 : 0 ≤ c) (h1 : c ≤ 255) : amongB setL c = letB c := of_fin (P := fun c => amongB setL c = letB c) (by decide +kernel) h0 h1
theorem among_digits {c : Int} (h0 : 0 ≤ c) (h1 : c ≤ 255) : amongB setD c = digB c := of_fin (P := fun c => amongB setD c = digB c) (by decide +kernel) h0 h1
theorem among_names {c : Int} (h0 : 0 ≤ c) (h1 : c ≤ 255) : amongB (setL ++ setD) c = (letB c || digB c) := of_fin (P := fun c => amongB (setL ++ setD) c = (letB c || digB c)) (by decide +kernel) h0 h1
theorem among_blanks {c : Int} (h0 : 0 ≤ c) (h1 : c ≤ 255) : amongB [32, 9] c = spB c := of_fin (P := fun c => amongB [32, 9] c = spB c) (by decide +kernel) h0 h1
theorem among_marks {c : Int} (h0 : 0 ≤ c) (h1 : c ≤ 255) : amongB [40, 41, 44, 43, 45] c = decide (c = 45 ∨ c = 40 ∨ c = 41 ∨ c = 44 ∨ c = 43) := of_fin (P := fun c => amongB [40, 41, 44, 43, 45] c = decide (c = 45 ∨ c = 40 ∨ c = 41 ∨ c = 44 ∨ c = 43)) (by decide +kernel) h0 h1
theorem run_names (l : List UInt8) : runB (setL ++ setD) l = nameRun l := by
  unfold runB nameRun
  have : (fun c : UInt8 => amongB (setL ++ setD) c.toNat) = fun c : UInt8 => letB c.toNat || digB c.toNat := by
    funext c
    exact among_names (by omega) (by have := c.toNat_lt; omega)
  rw [this]
theorem run_blanks (l : List UInt8) : runB [32, 9] l = (l.takeWhile fun c => spB c.toNat).length := by
  unfold runB
  have : (fun c : UInt8 => amongB [32, 9] c.toNat) = fun c : UInt8 => spB c.toNat := by
    funext c
    exact among_blanks (by omega) (by have := c.toNat_lt; omega)
  rw [this]
end Go.Proofs.YtgjknekoehfdfaaGreatDoor
