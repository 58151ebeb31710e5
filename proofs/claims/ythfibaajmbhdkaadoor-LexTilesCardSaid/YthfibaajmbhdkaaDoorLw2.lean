/- osierlaw07.LexTiles, walked. -/
import Derived.Test.YthfibaajmbhdkaaDoorLw1
namespace Go.Proofs.YthfibaajmbhdkaaDoor
open Go.RowKit
set_option linter.unusedVariables false

/-- The tiles from a token on: all but the first `i` tokens. -/
theorem tiles_last {l : List UInt8} {to : Nat} {ts : List Tok} (h : Tiles l to ts) : ∃ us, ts = us ++ [endTok l.length] := by
  induction h with
  | last => exact ⟨[], rfl⟩
  | more _ _ _ _ _ _ _ _ ih =>
    obtain ⟨us, rfl⟩ := ih
    exact ⟨_ :: us, rfl⟩

theorem lexR_tiles (l : List UInt8) (h : (lexR l).e = 0) : Tiles l 0 (lexR l).ts := by
  by_cases hl : 16384 < l.length
  · rw [lexR_long hl] at h; simp at h
  · rw [lexR_short (by omega)] at h ⊢
    have := LX_tiles l l.length 0 (Nat.zero_le _) (by omega)
    rw [List.drop_zero] at this
    exact this h

theorem lexR_bad (l : List UInt8) (h : (lexR l).e ≠ 0) : (lexR l).ts = [] := by
  by_cases hl : 16384 < l.length
  · rw [lexR_long hl]
  · rw [lexR_short (by omega)] at h ⊢
    exact (LX_ok _ l 0 (Nat.le_refl _)).2 h

theorem lexR_small (l : List UInt8) (h : (lexR l).e = 0) : l.length ≤ 16384 := by
  rcases Nat.lt_or_ge 16384 l.length with hl | hl
  · rw [lexR_long hl] at h; simp at h
  · exact hl

set_option maxHeartbeats 8000000 in
set_option maxRecDepth 100000 in
theorem tiles_bad (s : ByteArray) (w : World) (hs : s.size ≤ 140737488351232) (hg : Glob w) (he : (lexR s.data.toList).e ≠ 0) :
    Calls Tryd.prog 5 #[.string s] w fun e w' => e = .returned (.bool true) ∧ Below w.heap.size w w' := by
  have hT1 := tokens_any s w (by omega) hg
  unfold TokPost at hT1
  rw [lexR_bad _ he] at hT1
  generalize (lexR s.data.toList).at_ = p at *
  generalize (lexR s.data.toList).e = e0 at *
  have q0 : (e0 != 0) = true := by simpa using he
  simp only [List.length_nil] at hT1
  have HT1 := Lib.hid hT1
  have HG := Lib.hid hg
  clear hT1 he hg
  go_enter Tryd.func5, Tryd.ntmps5
  go_wp2_with fail
  refine HT1.out.mono ?_
  rintro e w1 ⟨a, cap, rfl, hown, hb1⟩
  clear hown
  go_wp2_with fail
  refine (awake07 _ (HG.out.below hb1)).mono ?_
  rintro e w2 ⟨rfl, hb2⟩
  have HB2 := Lib.hid (hb1.trans (hb2.mono hb1.size))
  clear hb1 hb2
  go_wp2_with fail
  go_ret
  exact ⟨rfl, HB2.out⟩

/-- What holds of the token at a place: the blanks ahead of it up to m, its text. -/
structure TileAt (l : List UInt8) (us : List Tok) (i to : Nat) (t : Tok) (p m : Nat) : Prop where
  here : (us ++ [endTok l.length])[i]? = some t
  pl : t.p = p
  h1 : to ≤ m
  h2 : m ≤ p
  h3 : p + t.x.length ≤ l.length
  tx : (l.drop p).take t.x.length = t.x
  bl : ∀ j, to ≤ j → j < m → spB (bt l j) = true
  rem : m < p → bt l m = 35 ∧ i = us.length
  tok : i < us.length → 1 ≤ t.x.length ∧ t.k ≠ 0 ∧ Tiles l (p + t.x.length) ((us ++ [endTok l.length]).drop (i + 1))
theorem tile_at {l : List UInt8} {us : List Tok} {i to : Nat} (hi : i ≤ us.length) (h : Tiles l to ((us ++ [endTok l.length]).drop i)) : ∃ t p m, TileAt l us i to t p m := by
  by_cases hlt : i < us.length
  · have hd : (us ++ [endTok l.length]).drop i = us[i] :: (us ++ [endTok l.length]).drop (i + 1) := by
      rw [List.drop_eq_getElem_cons (by simp; omega), List.getElem_append_left hlt]
    have hne : (us ++ [endTok l.length]).drop (i + 1) ≠ [] := by
      intro e
      have := congrArg List.length e
      rw [List.length_drop] at this
      simp at this
      omega
    rw [hd] at h
    generalize htl : (us ++ [endTok l.length]).drop (i + 1) = tl at *
    have hg : (us ++ [endTok l.length])[i]? = some us[i] := by rw [List.getElem?_append_left hlt, List.getElem?_eq_getElem hlt]
    generalize us[i] = t at *
    cases h with
    | last h1 h2 hb he => exact absurd rfl hne
    | more h1 hp hb h2 hx h3 hk hr => exact ⟨t, _, _, ⟨hg, hp, h1, Nat.le_refl _, h2, hx, hb, fun h => absurd h (Nat.lt_irrefl _), fun _ => ⟨h3, hk, by rw [htl]; exact hr⟩⟩⟩
  · have hie : i = us.length := by omega
    subst hie
    rw [List.drop_left] at h
    have hg : (us ++ [endTok l.length])[us.length]? = some (endTok l.length) := by simp
    generalize hE : [endTok l.length] = E at h
    cases h with
    | @last _ m h1 h2 hb he =>
      exact ⟨endTok l.length, l.length, m, ⟨hg, rfl, h1, h2, by simp [endTok], by simp [endTok], hb, fun h => ⟨he h, rfl⟩, fun h => absurd h (Nat.lt_irrefl _)⟩⟩
    | more h1 hp hb h2 hx h3 hk hr =>
      injection hE with h4 h5
      subst h4
      simp [endTok] at hk

set_option maxHeartbeats 8000000 in
set_option maxRecDepth 100000 in
theorem tiles_good (s : ByteArray) (w : World) (hs : s.size ≤ 140737488351232) (hg : Glob w) (he : (lexR s.data.toList).e = 0) :
    Calls Tryd.prog 5 #[.string s] w fun e w' => e = .returned (.bool true) ∧ Below w.heap.size w w' := by
  have hsl : s.data.toList.length = s.size := rfl
  have hT1 := tokens_any s w (by omega) hg
  unfold TokPost at hT1
  have htl := lexR_tiles _ he
  have hsm := lexR_small _ he
  have hct := lexR_count s.data.toList
  rw [hsl] at hsm hct
  obtain ⟨us, hus⟩ := tiles_last htl
  rw [hsl] at hus
  generalize (lexR s.data.toList).at_ = p at *
  generalize (lexR s.data.toList).e = e0 at *
  generalize (lexR s.data.toList).ts = ts at *
  subst he hus
  generalize hL : s.data.toList = l at *
  have hlen : (us ++ [endTok s.size]).length = us.length + 1 := by simp
  rw [hlen] at hT1 hct
  have hus : us.length ≤ 16384 := by omega
  have HT1 := Lib.hid hT1
  have HTL := Lib.hid htl
  have HG := Lib.hid hg
  have HL := Lib.hid hL
  have HSL := Lib.hid hsl
  clear hT1 hg hct hsl hL htl hlen
  go_enter Tryd.func5, Tryd.ntmps5
  go_wp2_with fail
  refine HT1.out.mono ?_
  rintro e w1 ⟨a, cap, rfl, hown, hb1⟩
  obtain ⟨g, rfl, _, _⟩ := own_some hown (by omega)
  obtain ⟨c0, c1, c2, c3, c4, c5⟩ := own_tok hown (by simp) (i := us.length) (t := endTok s.size) (by simp)
  unfold endTok at c0 c1 c2 c3 c4 c5
  simp only at c0 c1 c2 c3 c4 c5
  have HO := Lib.hid hown
  have HB1 := Lib.hid hb1
  clear hown hb1
  go_wp2_with fail
  go_loopw [41, 6] (fun ix tv wr => ∃ i to : Nat, i ≤ us.length + 1 ∧ ix = .int .i64 i ∧ tv = .int .i64 to ∧ (i ≤ us.length → Tiles l to ((us ++ [endTok s.size]).drop i)) ∧ Below w.heap.size w wr ∧
      wr.ownsRow w.heap.size 37 6 (.slice (some ⟨g, 0, none⟩) (us.length + 1) cap) (us.length + 1) (tcells (us ++ [endTok s.size]))) (fun ix _ _ => us.length + 1 - (intOf ix).toNat)
  case atStart => exact ⟨0, 0, Nat.zero_le _, rfl, rfl, fun _ => HTL.out, HB1.out, HO.out⟩
  case round =>
    obtain ⟨i, to, hi, rfl, rfl, htl, hbr, hor⟩ := hrel
    have HBR := Lib.hid hbr
    have HR := Lib.hid hor
    clear hbr hor c0 c1 c2 c3 c4 c5
    by_cases hlt : i < us.length + 1
    · have hta := htl (by omega)
      have hsz := HSL.out
      rw [← hsz] at hta
      obtain ⟨t, p, m, ht⟩ := tile_at (by omega) hta
      obtain ⟨here, pl, h1, h2, h3, tx, bl, rem, tok⟩ := ht
      rw [hsz] at here h3 tok
      obtain ⟨d0, d1, d2, d3, d4, d5⟩ := own_tok HR.out (by simp) here
      rw [pl] at d5
      generalize t.x = x at *
      generalize t.k = tk at *
      generalize t.vk = vk at *
      generalize t.vn = vn at *
      generalize t.vt = vt at *
      have htn : ((p : Int) + (x.length : Int)).toNat = p + x.length := by omega
      have k1 : decide (p < to) = false := decide_eq_false (by omega)
      have k2 : decide (s.size < p) = false := decide_eq_false (by omega)
      have k3 : decide ((s.size : Int) - (p : Int) < (x.length : Int)) = false := decide_eq_false (by omega)
      have k4 : (p : Int) ≤ (p : Int) + (x.length : Int) := by omega
      have k5 : (p : Int) + (x.length : Int) ≤ (s.size : Int) := by omega
      have k6 : ((s.extract p (p + x.length)).toList == x) = true := by
        rw [ByteArray.toList_eq, ← take_extract, HL.out, tx]
        exact beq_self_eq_true x
      have BL := Lib.hid bl
      have REM := Lib.hid rem
      have TOK := Lib.hid tok
      clear htl hta tx bl rem tok here hsz
      go_wp2_with fail
      go_quiet (fail)
      go_wp2_with fail
      go_loop [9] (fun jv => ∃ j : Nat, to ≤ j ∧ j ≤ m ∧ jv = .int .i64 j) (fun jv => m + 1 - (intOf jv).toNat)
      case atStart => exact ⟨to, Nat.le_refl _, h1, rfl⟩
      case round =>
        obtain ⟨j, hj1, hj2, rfl⟩ := hrel
        by_cases hjp : j < p
        · have hjs : j < s.size := by omega
          have hbt := bt_of s j hjs
          rw [HL.out] at hbt
          by_cases hjm : j < m
          · have hb := BL.out j hj1 hjm
            unfold spB at hb
            rcases of_decide_eq_true hb with h | h
            all_goals
              rw [h] at hbt
              clear h hb
              go_wp2_with fail
              go_round
              case rel => exact ⟨j + 1, by omega, by omega, by go_num⟩
              case measure => simp only [intOf]; omega
          · have hje : j = m := by omega
            subst hje
            obtain ⟨h35, hie⟩ := REM.out hjp
            rw [h35] at hbt
            clear h35
            subst hie
            go_wp2_with fail
            go_roundw
            case rel => exact ⟨us.length + 1, p + x.length, Nat.le_refl _, by go_num, by go_num, fun h => absurd h (by omega), bdrewN (balloc HBR.out _) _, HR.out.alloc _⟩
            case measure => simp only [intOf]; omega
        · have hje : j = p := by omega
          subst hje
          by_cases hiu : i < us.length
          · obtain ⟨x1, x2, x3⟩ := TOK.out hiu
            have q1 : ((x.length : Int) == 0) = false := by rw [beq_eq_false_iff_ne]; omega
            have q2 : (tk == 0) = false := by rw [beq_eq_false_iff_ne]; exact x2
            have X3 := Lib.hid x3
            clear x2 x3
            go_wp2_with fail
            go_roundw
            case rel => exact ⟨i + 1, j + x.length, by omega, by go_num, by go_num, fun _ => X3.out, bdrewN (balloc HBR.out _) _, HR.out.alloc _⟩
            case measure => simp only [intOf]; omega
          · have hie : i = us.length := by omega
            subst hie
            go_wp2_with fail
            go_roundw
            case rel => exact ⟨us.length + 1, j + x.length, Nat.le_refl _, by go_num, by go_num, fun h => absurd h (by omega), bdrewN (balloc HBR.out _) _, HR.out.alloc _⟩
            case measure => simp only [intOf]; omega
    · have hie : i = us.length + 1 := by omega
      subst hie
      go_wp2_with fail
      refine (awake07 _ (HG.out.below HBR.out)).mono ?_
      rintro e w2 ⟨rfl, hb2⟩
      have HB2 := Lib.hid (HBR.out.trans (hb2.mono HBR.out.size))
      clear hb2
      go_wp2_with fail
      go_ret
      exact ⟨rfl, HB2.out⟩

theorem tiles_law (s : ByteArray) (w : World) (hs : s.size ≤ 140737488351232) (hg : Glob w) :
    Calls Tryd.prog 5 #[.string s] w fun e w' => e = .returned (.bool true) ∧ Below w.heap.size w w' := by
  by_cases he : (lexR s.data.toList).e = 0
  · exact tiles_good s w hs hg he
  · exact tiles_bad s w hs hg he
end Go.Proofs.YthfibaajmbhdkaaDoor
