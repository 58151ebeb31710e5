/- osierlaw07.LexBlanks, walked. -/
import Derived.Test.YthfibaajmbhdkaaDoorLw2
namespace Go.Proofs.YthfibaajmbhdkaaDoor
open Go.RowKit
set_option linter.unusedVariables false

theorem AlikeT.len {a b : List Tok} (h : AlikeT a b) : b.length = a.length := by
  induction h with
  | nil => rfl
  | cons _ _ ih => simp [ih]
theorem AlikeT.get {a b : List Tok} (h : AlikeT a b) : ∀ (i : Nat) (t : Tok), a[i]? = some t → ∃ t', b[i]? = some t' ∧ t.same3 t' := by
  induction h with
  | nil => intro i t h; simp at h
  | cons h0 _ ih =>
    intro i t h
    cases i with
    | zero =>
      simp only [List.getElem?_cons_zero, Option.some.injEq] at h
      subst h
      exact ⟨_, rfl, h0⟩
    | succ i =>
      rw [List.getElem?_cons_succ] at h ⊢
      exact ih i t h

theorem render_take {b : List UInt8} {ts : List Tok} {i : Nat} {t : Tok} (h : ts[i]? = some t) : render b (ts.take (i + 1)) = render b (ts.take i) ++ (t.x ++ b) := by
  unfold render
  rw [List.take_add_one, h, List.flatMap_append]
  simp

theorem render_le (b : List UInt8) (ts : List Tok) (i : Nat) : (render b (ts.take i)).length ≤ (render b ts).length := by
  have : render b ts = render b (ts.take i) ++ render b (ts.drop i) := by
    unfold render
    rw [← List.flatMap_append, List.take_append_drop]
  rw [this, List.length_append]
  omega

def remark : List UInt8 := [32, 110, 111, 32, 109, 111, 114, 101, 32, 40]
theorem blanks_plain (l b : List UInt8) (hb : ∀ c ∈ b, c = 32 ∨ c = 9) (hb32 : b.head? = some 32) (hbl : b.length ≤ 3) (he : (lexR l).e = 0) (hl : l.length ≤ 3000) :
    (lexR (render b (lexR l).ts ++ 35 :: remark)).e = 0 ∧ AlikeT (lexR l).ts (lexR (render b (lexR l).ts ++ 35 :: remark)).ts ∧ (render b (lexR l).ts).length ≤ 12003 := by
  rw [lexR_short (l := l) (by omega)] at he ⊢
  obtain ⟨h1, h2, h3⟩ := LX_render b remark hb hb32 _ l 0 0 (Nat.le_refl _) he
  have h4 : b.length * (l.length + 1) ≤ 3 * 3001 := Nat.mul_le_mul hbl (by omega)
  have h5 : (render b (LX l 0).ts).length ≤ 12003 := by omega
  have hr : remark.length = 10 := rfl
  rw [lexR_short (l := render b (LX l 0).ts ++ 35 :: remark) (by rw [List.length_append, List.length_cons, hr]; omega)]
  exact ⟨h1, h2, h5⟩

set_option maxHeartbeats 8000000 in
set_option maxRecDepth 100000 in
theorem blanks_bad (s : ByteArray) (wide : Bool) (w : World) (hs : s.size ≤ 140737488351232) (hg : Glob w) (he : (lexR s.data.toList).e ≠ 0 ∨ 3000 < s.size) :
    Calls Tryd.prog 6 #[.string s, .bool wide] w fun e w' => e = .returned (.bool true) ∧ Below w.heap.size w w' := by
  have hT1 := tokens_any s w (by omega) hg
  unfold TokPost at hT1
  generalize lexR s.data.toList = R at *
  obtain ⟨ts, p, e0⟩ := R
  simp only at he hT1
  have HT1 := Lib.hid hT1
  have HG := Lib.hid hg
  clear hT1 hg
  by_cases h0 : e0 = 0
  · have h3 : 3000 < s.size := he.resolve_left (fun h => h h0)
    subst h0
    clear he
    go_enter Tryd.func6, Tryd.ntmps6
    go_wp2_with fail
    refine HT1.out.mono ?_
    rintro e w1 ⟨a, cap, rfl, hown, hb1⟩
    clear hown
    go_wp2_with fail
    refine (awake07 _ (HG.out.below hb1)).mono ?_
    rintro e w2 ⟨rfl, hb2⟩
    have HB2 := Lib.hid (hb1.trans (hb2.mono hb1.size))
    clear hb1 hb2
    go_wp2_with fail
    go_ret
    exact ⟨rfl, HB2.out⟩
  · have q0 : (e0 != 0) = true := by simpa using h0
    clear he h0
    go_enter Tryd.func6, Tryd.ntmps6
    go_wp2_with fail
    refine HT1.out.mono ?_
    rintro e w1 ⟨a, cap, rfl, hown, hb1⟩
    clear hown
    go_wp2_with fail
    refine (awake07 _ (HG.out.below hb1)).mono ?_
    rintro e w2 ⟨rfl, hb2⟩
    have HB2 := Lib.hid (hb1.trans (hb2.mono hb1.size))
    clear hb1 hb2
    go_wp2_with fail
    go_ret
    exact ⟨rfl, HB2.out⟩

def blankB (wide : Bool) : List UInt8 := if wide then [32, 9, 32] else [32]

set_option maxHeartbeats 16000000 in
set_option maxRecDepth 100000 in
theorem blanks_good (s : ByteArray) (wide : Bool) (w : World) (hs : s.size ≤ 3000) (hg : Glob w) (he : (lexR s.data.toList).e = 0) :
    Calls Tryd.prog 6 #[.string s, .bool wide] w fun e w' => e = .returned (.bool true) ∧ Below w.heap.size w w' := by
  have hsl : s.data.toList.length = s.size := rfl
  have hT1 := tokens_any s w (by omega) hg
  unfold TokPost at hT1
  have hct := lexR_count s.data.toList
  have hbp := blanks_plain s.data.toList (blankB wide) (by cases wide <;> simp [blankB]) (by cases wide <;> rfl) (by cases wide <;> simp [blankB]) he (by omega)
  rw [hsl] at hct
  generalize lexR s.data.toList = R at *
  obtain ⟨ts, p, e0⟩ := R
  simp only at he hT1 hct hbp
  subst he
  have HBP := Lib.hid hbp
  have HT1 := Lib.hid hT1
  have HG := Lib.hid hg
  clear hT1 hg hsl hbp
  go_enter Tryd.func6, Tryd.ntmps6
  go_wp2_with fail
  refine HT1.out.mono ?_
  rintro e w1 ⟨a, cap, rfl, hown, hb1⟩
  have HO := Lib.hid hown
  have HB1 := Lib.hid hb1
  clear hown hb1
  go_wp2_with fail
  go_loopw [31, 8] (fun ix sv wr => ∃ (i : Nat) (S : ByteArray), i ≤ ts.length ∧ ix = .int .i64 i ∧ sv = .string S ∧ S.data.toList = render (blankB wide) (ts.take i) ∧ Below w.heap.size w wr ∧
      wr.ownsRow w.heap.size 37 6 (.slice a ts.length cap) ts.length (tcells ts)) (fun ix _ _ => ts.length - (intOf ix).toNat)
  case atStart => exact ⟨0, ⟨#[]⟩, Nat.zero_le _, rfl, rfl, rfl, HB1.out, HO.out⟩
  case round =>
    obtain ⟨i, S, hi, rfl, rfl, hS, hbr, hor⟩ := hrel
    have HS := Lib.hid hS
    have HBR := Lib.hid hbr
    have HR := Lib.hid hor
    clear hS hbr hor
    by_cases hlt : i < ts.length
    · obtain ⟨t, ht⟩ : ∃ t, ts[i]? = some t := ⟨ts[i], List.getElem?_eq_getElem hlt⟩
      have hrt := render_take (b := blankB wide) ht
      obtain ⟨g, rfl, _, _⟩ := own_some HR.out (by omega)
      obtain ⟨c0, c1, c2, c3, c4, c5⟩ := own_tok HR.out rfl ht
      generalize t.x = x at *
      generalize t.k = tk at *
      generalize t.vk = vk at *
      generalize t.vn = vn at *
      generalize t.vt = vt at *
      have hrl := render_le (blankB wide) ts (i + 1)
      have hlim := HBP.out.2.2
      have hsS : S.data.toList.length = S.size := rfl
      rw [HS.out] at hsS
      have hrtl := congrArg List.length hrt
      rw [List.length_append, List.length_append, hsS] at hrtl
      have hlm : S.size + (x.length + (blankB wide).length) ≤ 12003 := by omega
      have HRT := Lib.hid hrt
      clear hrt ht hrl hlim hsS hrtl
      cases wide with
      | true =>
        have hlm2 : S.size + x.length + 3 ≤ 12003 := hlm
        clear hlm
        go_wp2_with fail
        go_roundw
        case rel => exact ⟨i + 1, _, by omega, by go_num, rfl, by rw [HRT.out, ← HS.out]; simp [blankB], balloc HBR.out _, HR.out.alloc _⟩
        case measure => simp only [intOf]; omega
      | false =>
        have hlm2 : S.size + x.length + 1 ≤ 12003 := hlm
        clear hlm
        go_wp2_with fail
        go_roundw
        case rel => exact ⟨i + 1, _, by omega, by go_num, rfl, by rw [HRT.out, ← HS.out]; simp [blankB], balloc HBR.out _, HR.out.alloc _⟩
        case measure => simp only [intOf]; omega
    · have hie : i = ts.length := by omega
      subst hie
      obtain ⟨b1, b2, b3⟩ := HBP.out
      have hS2 : (S ++ ByteArray.mk #[35, 32, 110, 111, 32, 109, 111, 114, 101, 32, 40]).data.toList = render (blankB wide) ts ++ 35 :: remark := by
        rw [ByteArray.data_append, Array.toList_append, HS.out, List.take_length]
        rfl
      have hsz : S.size ≤ 12003 := by
        have h1 := HS.out
        rw [List.take_length] at h1
        have h2 : S.data.toList.length = S.size := rfl
        rw [h1] at h2
        omega
      have hT2 := fun W => tokens_any (S ++ ByteArray.mk #[35, 32, 110, 111, 32, 109, 111, 114, 101, 32, 40]) W (by
        have e1 : (ByteArray.mk #[35, 32, 110, 111, 32, 109, 111, 114, 101, 32, 40]).size = 11 := rfl
        rw [ByteArray.size_append, e1]; omega)
      unfold TokPost at hT2
      rw [hS2] at hT2
      generalize lexR (render (blankB wide) ts ++ 35 :: remark) = R2 at *
      obtain ⟨us, p2, e2⟩ := R2
      simp only at b1 b2 hT2
      subst b1
      rw [b2.len] at hT2
      have HT2 := Lib.hid hT2
      have HAL := Lib.hid b2
      clear hT2 b2 b3 hS2
      go_wp2_with fail
      refine (HT2.out _ (HG.out.below HBR.out)).mono ?_
      rintro e w3 ⟨a3, cap3, rfl, hown3, hb3⟩
      have hb3' := HBR.out.trans (hb3.mono HBR.out.size)
      have hor' := (Mod.ofBelow (F := fun _ => False) hb3).ownsRow HR.out (fun _ _ f => f)
      have HB3 := Lib.hid hb3'
      have HO3 := Lib.hid hown3
      have HR3 := Lib.hid hor'
      generalize wr.heap.size = B3 at *
      clear hb3 hb3' hown3 hor'
      go_wp2_with fail
      go_loopw [62] (fun ix wr' => ∃ j : Nat, j ≤ ts.length ∧ ix = .int .i64 j ∧ Below w.heap.size w wr' ∧ wr'.ownsRow w.heap.size 37 6 (.slice a ts.length cap) ts.length (tcells ts) ∧ wr'.ownsRow B3 37 6 (.slice a3 ts.length cap3) ts.length (tcells us)) (fun ix _ => ts.length - (intOf ix).toNat)
      case atStart => exact ⟨0, Nat.zero_le _, rfl, HB3.out, HR3.out, HO3.out⟩
      case round =>
        obtain ⟨j, hj, rfl, hbr, hor, hor3⟩ := hrel
        have HBR := Lib.hid hbr
        have HR := Lib.hid hor
        have HR4 := Lib.hid hor3
        clear hbr hor hor3
        by_cases hlt : j < ts.length
        · obtain ⟨t, ht⟩ : ∃ t, ts[j]? = some t := ⟨ts[j], List.getElem?_eq_getElem hlt⟩
          obtain ⟨t', ht', s1, s2, s3, s4, s5⟩ := HAL.out.get j t ht
          obtain ⟨g, rfl, _, _⟩ := own_some HR.out (by omega)
          obtain ⟨c0, c1, c2, c3, c4, c5⟩ := own_tok HR.out rfl ht
          obtain ⟨g3, rfl, _, _⟩ := own_some HR4.out (by omega)
          obtain ⟨d0, d1, d2, d3, d4, d5⟩ := own_tok HR4.out HAL.out.len ht'
          rw [← s1] at d0
          rw [← s2] at d1
          rw [← s3] at d2
          rw [← s4] at d3
          rw [← s5] at d4
          clear s1 s2 s3 s4 s5 ht ht'
          go_wp2_with fail
          go_quiet (fail)
          go_wp2_with fail
          go_roundw
          case rel => exact ⟨j + 1, by omega, by go_num, bdrewN HBR.out _, HR.out, HR4.out⟩
          case measure => simp only [intOf]; omega
        · have hje : j = ts.length := by omega
          subst hje
          go_wp2_with fail
          refine (awake07 _ (HG.out.below HBR.out)).mono ?_
          rintro e w4 ⟨rfl, hb4⟩
          have HB4 := Lib.hid (HBR.out.trans (hb4.mono HBR.out.size))
          clear hb4
          go_wp2_with fail
          go_ret
          exact ⟨rfl, HB4.out⟩

theorem blanks_law (s : ByteArray) (wide : Bool) (w : World) (hs : s.size ≤ 140737488351232) (hg : Glob w) :
    Calls Tryd.prog 6 #[.string s, .bool wide] w fun e w' => e = .returned (.bool true) ∧ Below w.heap.size w w' := by
  by_cases he : (lexR s.data.toList).e = 0
  · by_cases h3 : s.size ≤ 3000
    · exact blanks_good s wide w h3 hg he
    · exact blanks_bad s wide w hs hg (.inr (by omega))
  · exact blanks_bad s wide w hs hg (.inl he)
end Go.Proofs.YthfibaajmbhdkaaDoor
