/- osierlaw07.LexFaults, walked. -/
import Derived.Test.YthfibaajmbhdkaaDoorLw0
import Derived.Test.YthfibaajmbhdkaaDoorLxr
import Derived.BigQuiet
namespace Go.Proofs.YthfibaajmbhdkaaDoor
open Go.RowKit
set_option linter.unusedVariables false

theorem lexR_short {l : List UInt8} (h : l.length ≤ 16384) : lexR l = LX l 0 := by unfold lexR; rw [if_neg (by omega)]
theorem lexR_long {l : List UInt8} (h : 16384 < l.length) : lexR l = ⟨[], 0, 70⟩ := by unfold lexR; rw [if_pos h]

/-- Not more tokens than bytes, but for the end. -/
theorem LX_count : ∀ (m : Nat) (r : List UInt8) (p : Nat), r.length ≤ m → (LX r p).ts.length ≤ r.length + 1 := by
  intro m
  induction m with
  | zero =>
    intro r p h
    have : r = [] := List.length_eq_zero_iff.1 (by omega)
    subst this
    rw [LX_end (.inl rfl)]
    simp
  | succ m ih =>
    intro r p h
    by_cases h0 : r = [] ∨ bt r 0 = 35
    · rw [LX_end h0]; simp
    · have hr : r ≠ [] := fun e => h0 (.inl e)
      have hl := List.length_pos_iff.2 hr
      by_cases hb : spB (bt r 0) = true
      · rw [LX_blank h0 hb]
        have := ih (r.drop 1) (p + 1) (by rw [List.length_drop]; omega)
        rw [List.length_drop] at this
        omega
      · have hb' : spB (bt r 0) = false := by simpa using hb
        by_cases hz : (oneS r p).2 = 0
        · obtain ⟨l1, _, l3⟩ := one_len hz hr
          have := ih (r.drop (oneS r p).1.x.length) (p + (oneS r p).1.x.length) (by rw [List.length_drop]; omega)
          rw [List.length_drop] at this
          rw [LX_one h0 hb' hz]
          split
          · omega
          · simp only [List.length_cons]; omega
        · rw [LX_bad h0 hb' hz]; simp
theorem lexR_count (l : List UInt8) : (lexR l).ts.length ≤ l.length + 1 := by
  by_cases h : 16384 < l.length
  · rw [lexR_long h]; simp
  · rw [lexR_short (by omega)]; exact LX_count _ l 0 (Nat.le_refl _)

theorem fault_plain (l : List UInt8) : ((lexR l).e = 0 ∧ (lexR l).at_ = 0) ∨ ((lexR l).e = 70 ∧ (lexR l).at_ = 0 ∧ 16384 < l.length) ∨
    ((lexR l).e ≠ 0 ∧ (lexR l).e ≠ 70 ∧ ∃ n ts, (lexR l).at_ = ((n : Nat) : Int) ∧ n < l.length ∧ l.length ≤ 16384 ∧ lexR (l.take n) = ⟨ts ++ [endTok n], 0, 0⟩ ∧
      ∀ more, (lexR (l.take n ++ 32 :: more)).e = 0 → ∃ us, (lexR (l.take n ++ 32 :: more)).ts = ts ++ us) := by
  by_cases h : 16384 < l.length
  · rw [lexR_long h]; exact .inr (.inl ⟨rfl, rfl, h⟩)
  · have hl : l.length ≤ 16384 := by omega
    rw [lexR_short hl]
    by_cases he : (LX l 0).e = 0
    · exact .inl ⟨he, (LX_ok _ l 0 (Nat.le_refl _)).1 he⟩
    · obtain ⟨n, ts, e1, e2, e3, e4, e5⟩ := LX_fault _ l 0 (Nat.le_refl _) he
      refine .inr (.inr ⟨he, e3, n, ts, by rw [e1, Nat.zero_add], e2, hl, ?_, fun more hm => ?_⟩)
      · rw [lexR_short (by rw [List.length_take]; omega), e4, Nat.zero_add]
      · by_cases hlong : 16384 < (l.take n ++ 32 :: more).length
        · rw [lexR_long hlong] at hm; simp at hm
        · rw [lexR_short (by omega)] at hm ⊢
          exact e5 more hm

/-- The cells of the token at a place. -/
theorem tcells_at : ∀ (ts : List Tok) (i : Nat) (t : Tok) (j : Nat), ts[i]? = some t → j < 6 → (tcells ts)[i * 6 + j]? = t.cells[j]? := by
  intro ts
  induction ts with
  | nil => intro i t j h; simp at h
  | cons a ts ih =>
    intro i t j h hj
    have e : tcells (a :: ts) = a.cells ++ tcells ts := by simp [tcells]
    rw [e]
    have hl : a.cells.length = 6 := rfl
    cases i with
    | zero =>
      simp only [List.getElem?_cons_zero, Option.some.injEq] at h
      subst h
      rw [Nat.zero_mul, Nat.zero_add, List.getElem?_append_left (by omega)]
    | succ i =>
      rw [List.getElem?_cons_succ] at h
      rw [List.getElem?_append_right (by omega), ← ih i t j h hj, hl]
      congr 1
      omega

/-- Where a told token lies. -/
theorem own_tok {w : World} {base : Nat} {e : TypeId} {g n cap : Nat} {ts : List Tok} (h : w.ownsRow base e 6 (.slice (some ⟨g, 0, none⟩) n cap) n (tcells ts)) (hn : ts.length = n) {i : Nat} {t : Tok} (ht : ts[i]? = some t) :
    w.cell? ⟨g, i * 6, none⟩ = some (.int .i64 t.k) ∧ w.cell? ⟨g, i * 6 + 1, none⟩ = some (.string ⟨t.x.toArray⟩) ∧ w.cell? ⟨g, i * 6 + 2, none⟩ = some (.int .i64 t.vk) ∧ w.cell? ⟨g, i * 6 + 3, none⟩ = some (.int .i64 t.vn) ∧
      w.cell? ⟨g, i * 6 + 4, none⟩ = some (.string ⟨t.vt.toArray⟩) ∧ w.cell? ⟨g, i * 6 + 5, none⟩ = some (.int .i64 t.p) := by
  have hi : i < n := by rw [← hn]; exact (List.getElem?_eq_some_iff.1 ht).1
  have key : ∀ j, j < 6 → w.cell? ⟨g, i * 6 + j, none⟩ = t.cells[j]? := fun j hj => by
    rw [h.cellAt (i * 6 + j) (by omega), tcells_at ts i t j ht hj]
  exact ⟨key 0 (by decide), key 1 (by decide), key 2 (by decide), key 3 (by decide), key 4 (by decide), key 5 (by decide)⟩

theorem faults_bytes (s more : ByteArray) (n : Nat) : (s.extract 0 n ++ ByteArray.mk #[32] ++ more).data.toList = s.data.toList.take n ++ 32 :: more.data.toList := by simp
theorem faults_take (s : ByteArray) (n : Nat) : (s.extract 0 n).data.toList = s.data.toList.take n := by simp

set_option maxHeartbeats 8000000 in
set_option maxRecDepth 100000 in
theorem faults_law (s more : ByteArray) (w : World) (hs : s.size ≤ 140737488351232) (hm : more.size ≤ 140737488351232) (hg : Glob w) :
    Calls Tryd.prog 7 #[.string s, .string more] w fun e w' => e = .returned (.bool true) ∧ Below w.heap.size w w' := by
  have hsl : s.data.toList.length = s.size := rfl
  have hT1 := tokens_any s w (by omega) hg
  rcases fault_plain s.data.toList with ⟨h1, h2⟩ | ⟨h1, h2, h3⟩ | ⟨h1, h2, n, ts, h3, h4, h5, h6, h7⟩
  · unfold TokPost at hT1
    rw [h1, h2] at hT1
    have HT1 := Lib.hid hT1
    have HG := Lib.hid hg
    clear hT1 h1 h2 hg hsl
    go_enter Tryd.func7, Tryd.ntmps7
    go_wp2_with fail
    refine HT1.out.mono ?_
    rintro e w1 ⟨a, cap, rfl, hown, hb1⟩
    clear hown
    go_wp2_with fail
    refine (awake07 _ (HG.out.below hb1)).mono ?_
    rintro e w2 ⟨rfl, hb2⟩
    have HB2 := Lib.hid (hb1.trans (hb2.mono hb1.size))
    clear hb1 hb2
    go_wp2_with fail
    go_ret
    exact ⟨rfl, HB2.out⟩
  · unfold TokPost at hT1
    rw [h1, h2] at hT1
    rw [hsl] at h3
    have HT1 := Lib.hid hT1
    have HG := Lib.hid hg
    clear hT1 h1 h2 hg hsl
    go_enter Tryd.func7, Tryd.ntmps7
    go_wp2_with fail
    refine HT1.out.mono ?_
    rintro e w1 ⟨a, cap, rfl, hown, hb1⟩
    clear hown
    go_wp2_with fail
    refine (awake07 _ (HG.out.below hb1)).mono ?_
    rintro e w2 ⟨rfl, hb2⟩
    have HB2 := Lib.hid (hb1.trans (hb2.mono hb1.size))
    clear hb1 hb2
    go_wp2_with fail
    go_ret
    exact ⟨rfl, HB2.out⟩
  · unfold TokPost at hT1
    rw [h3] at hT1
    rw [hsl] at h4 h5
    have htc := lexR_count (s.data.toList.take n)
    rw [h6] at htc
    simp only [List.length_append, List.length_cons, List.length_nil, List.length_take] at htc
    have htc2 : ts.length ≤ 16384 := by omega
    clear htc
    have hT2 := fun W => tokens_any (s.extract 0 n) W (by simp; omega)
    unfold TokPost at hT2
    rw [faults_take, h6] at hT2
    have hT3 := fun W => tokens_any (s.extract 0 n ++ ByteArray.mk #[32] ++ more) W (by
      have e1 : (ByteArray.mk #[32]).size = 1 := rfl
      rw [ByteArray.size_append, ByteArray.size_append, ByteArray.size_extract, e1]; omega)
    unfold TokPost at hT3
    rw [faults_bytes] at hT3
    have h8 := h7 more.data.toList
    generalize lexR (s.data.toList.take n ++ 32 :: more.data.toList) = R3 at *
    obtain ⟨ts3, at3, e3⟩ := R3
    generalize (lexR s.data.toList).e = e0 at *
    generalize (lexR s.data.toList).ts = ts1 at *
    have q0 : (e0 == 0) = false := by simpa using h1
    have q70 : (e0 == 70) = false := by simpa using h2
    simp only at h8 hT2 hT3
    have HT1 := Lib.hid hT1
    have HT2 := Lib.hid hT2
    have HT3 := Lib.hid hT3
    have HG := Lib.hid hg
    have H8 := Lib.hid h8
    clear hT1 hT2 hT3 h1 h2 h3 h6 h7 h8 hg hsl
    go_enter Tryd.func7, Tryd.ntmps7
    go_wp2_with fail
    refine HT1.out.mono ?_
    rintro e w1 ⟨a, cap, rfl, hown, hb1⟩
    clear hown
    have HB1 := Lib.hid hb1
    clear hb1
    go_wp2_with fail
    refine (HT2.out _ (HG.out.below HB1.out)).mono ?_
    rintro e w2 ⟨a2, cap2, rfl, hown2, hb2⟩
    have hb2' := HB1.out.trans (hb2.mono HB1.out.size)
    have HB2 := Lib.hid hb2'
    clear hb2'
    go_wp2_with fail
    refine (HT3.out _ (HG.out.below HB2.out)).mono ?_
    rintro e w3 ⟨a3, cap3, rfl, hown3, hb3⟩
    have hb3' := HB2.out.trans (hb3.mono HB2.out.size)
    have hown2' := (Mod.ofBelow (F := fun _ => False) hb3).ownsRow hown2 (fun _ _ f => f)
    have hlen : (ts ++ [endTok n]).length = ts.length + 1 := by simp
    rw [hlen] at hown2'
    obtain ⟨g2, rfl, _, _⟩ := own_some hown2' (by omega)
    have HB3 := Lib.hid hb3'
    have HO2 := Lib.hid hown2'
    clear hown2 hown2' hb2 hb3 hb3'
    clear hlen
    by_cases he3 : e3 = 0
    · obtain ⟨us, rfl⟩ := H8.out he3
      subst he3
      have HO3 := Lib.hid hown3
      clear hown3 H8
      go_wp2_with fail
      go_loopw [14] (fun ix wr => ∃ i : Nat, i ≤ ts.length ∧ ix = .int .i64 i ∧ Below w.heap.size w wr ∧ wr.ownsRow w1.heap.size 37 6 (.slice (some ⟨g2, 0, none⟩) (ts.length + 1) cap2) (ts.length + 1) (tcells (ts ++ [endTok n])) ∧ wr.ownsRow w2.heap.size 37 6 (.slice a3 (ts ++ us).length cap3) (ts ++ us).length (tcells (ts ++ us))) (fun ix _ => ts.length - (intOf ix).toNat)
      case atStart => exact ⟨0, Nat.zero_le _, rfl, HB3.out, HO2.out, HO3.out⟩
      case round =>
        obtain ⟨i, hi, rfl, hbr, hor2, hor3⟩ := hrel
        have HBR := Lib.hid hbr
        have HR2 := Lib.hid hor2
        have HR3 := Lib.hid hor3
        clear hbr hor2 hor3
        by_cases hlt : i < ts.length
        · obtain ⟨t, ht⟩ : ∃ t, ts[i]? = some t := ⟨ts[i], List.getElem?_eq_getElem hlt⟩
          obtain ⟨c0, c1, c2, c3, c4, c5⟩ := own_tok HR2.out (by simp) (i := i) (t := t) (by rw [List.getElem?_append_left hlt]; exact ht)
          have hl3 : (ts ++ us).length = ts.length + us.length := by simp
          have ho3 := HR3.out
          rw [hl3] at ho3
          obtain ⟨g3, rfl, _, _⟩ := own_some ho3 (by omega)
          obtain ⟨d0, d1, d2, d3, d4, d5⟩ := own_tok ho3 (by simp) (i := i) (t := t) (by rw [List.getElem?_append_left hlt]; exact ht)
          have HR4 := Lib.hid ho3
          clear ho3
          try rw [hl3]
          clear hl3 ht
          have q1 : decide ((ts.length : Int) + (us.length : Int) ≤ (i : Int)) = false := decide_eq_false (by omega)
          go_wp2_with fail
          go_quiet (fail)
          go_wp2_with fail
          go_roundw
          case rel => exact ⟨i + 1, by omega, by go_num, bdrewN HBR.out _, HR2.out, HR4.out⟩
          case measure => simp [intOf]; omega
        · have hie : i = ts.length := by omega
          subst hie
          go_wp2_with fail
          refine (awake07 _ (HG.out.below HBR.out)).mono ?_
          rintro e w4 ⟨rfl, hb4⟩
          have HB4 := Lib.hid (HBR.out.trans (hb4.mono HBR.out.size))
          clear hb4
          go_wp2_with fail
          go_ret
          exact ⟨rfl, HB4.out⟩
    · have q3 : (e3 == 0) = false := by simpa using he3
      clear he3 hown3
      go_wp2_with fail
      refine (awake07 _ (HG.out.below HB3.out)).mono ?_
      rintro e w4 ⟨rfl, hb4⟩
      have HB4 := Lib.hid (HB3.out.trans (hb4.mono HB3.out.size))
      clear hb4
      go_wp2_with fail
      go_ret
      exact ⟨rfl, HB4.out⟩
end Go.Proofs.YthfibaajmbhdkaaDoor
