/- lex.one whole; lex.IsName, lex.Tokens, walked. lex.Tokens, walked. -/
import Derived.Test.YtgjknekoehfdfaaGreatDoorLy
import Derived.Test.YtgjknekoehfdfaaGreatDoorLc
import Derived.Deep.AppendLies
namespace Go.Proofs.YtgjknekoehfdfaaGreatDoor
open Go.RowKit
set_option linter.unusedVariables false

theorem one_any (s : ByteArray) (i : Nat) (w : World) (hi : i < s.size) (hs : s.size ≤ 140737488355328) (hg : Glob w) : OneOk s i w := by
  by_cases h58 : bt s.data.toList i = 58
  · by_cases hn : bt s.data.toList (i + 1) = 45
    · exact one_colon_ok s i w hi hs h58 hn
    · exact one_colon_bad s i w hi hs h58 hn
  by_cases h45 : bt s.data.toList i = 45
  · cases hd : digB (bt s.data.toList (i + 1)) with
    | true => exact one_minus_lit s i w hi hs hg h45 hd
    | false => exact one_minus_mark s i w hi hs h45 hd
  by_cases hm : bt s.data.toList i = 40 ∨ bt s.data.toList i = 41 ∨ bt s.data.toList i = 44 ∨ bt s.data.toList i = 43
  · exact one_mark s i w hi hs hg hm
  by_cases hl : bt s.data.toList i = 34 ∨ digB (bt s.data.toList i) = true
  · exact one_lit s i w hi hs hg hl
  cases hlt : letB (bt s.data.toList i) with
  | true => exact one_name_walk s i w hi hs hlt
  | false =>
    refine one_other s i w hi hs ⟨h58, h45, fun h => hm (.inl h), fun h => hm (.inr (.inl h)), fun h => hm (.inr (.inr (.inl h))), fun h => hm (.inr (.inr (.inr h))), fun h => hl (.inl h), ?_⟩ hlt
    cases hd : digB (bt s.data.toList i) with
    | true => exact absurd (.inr hd) hl
    | false => rfl

theorem Tryz.infoTok : (Tryz.prog.info? 101).map (fun i => (i.zero, i.size, i.bytes)) = some (some (.agg #[.int .i64 0, .string ⟨#[]⟩, .int .i64 0, .int .i64 0, .string ⟨#[]⟩, .int .i64 0]), 6, 64) := by kernel_rfl

set_option maxHeartbeats 8000000 in
set_option maxRecDepth 100000 in
theorem isName_any (s : ByteArray) (w : World) (hs : s.size ≤ 140737488355328) :
    Calls Tryz.prog 76 #[.string s] w fun e w' => e = .returned (.bool (isNameB s.data.toList)) ∧ w = w' := by
  have hsl : s.data.toList.length = s.size := rfl
  by_cases h0 : s.size = 0
  · have hd : s.data.toList = [] := List.length_eq_zero_iff.1 (by omega)
    have hE : isNameB s.data.toList = false := by unfold isNameB; simp [hd]
    obtain rfl : s = ByteArray.empty := by
      apply ByteArray.ext
      exact Array.size_eq_zero_iff.1 h0
    have HE := Lib.hid hE
    clear hE hsl hd
    go_enter Tryz.func76, Tryz.ntmps76
    go_wp2_with fail
    go_ret
    exact ⟨by rw [HE.out]; rfl, rfl⟩
  · have h0' : 0 < s.size := by omega
    have hbt := bt_of s 0 h0'
    have hne := nameEnd_any s 0 w (by omega) (by omega)
    rw [List.drop_zero, Nat.zero_add] at hne
    have hE : isNameB s.data.toList = (letB (bt s.data.toList 0) && (decide (nameRun s.data.toList = s.size) && decide (s.size ≤ 16))) := by
      unfold isNameB
      rw [hsl]
      have : s.data.toList ≠ [] := fun e => by rw [e] at hsl; simp at hsl; omega
      by_cases a : letB (bt s.data.toList 0) = true <;> by_cases b : nameRun s.data.toList = s.size <;> by_cases c : s.size ≤ 16 <;> simp [this, a, b, c]
    rw [hE]
    have hem : s.toList.isEmpty = false := by
      rw [ByteArray.toList_eq]
      cases h : s.data.toList with
      | nil => rw [h] at hsl; simp at hsl; omega
      | cons _ _ => rfl
    have HNE := Lib.hid hne
    clear hE hne hsl
    generalize nameRun s.data.toList = n at *
    have q16 : decide ((s.size : Int) ≤ 16) = decide (s.size ≤ 16) := decide_eq_decide.2 (by omega)
    cases hl : letB (bt s.data.toList 0) with
    | false =>
      go_enter Tryz.func76, Tryz.ntmps76
      go_wp2_with (go_at_call 138; refine (isLetter_any _ _).mono ?_; rintro e w' ⟨rfl, rfl⟩)
      go_ret
      exact ⟨rfl, rfl⟩
    | true =>
      by_cases hn : n = s.size
      · have qn : ((n : Int) == (s.size : Int)) = true := by simp [hn]
        rw [decide_eq_true hn]
        clear hn
        go_enter Tryz.func76, Tryz.ntmps76
        go_wp2_with (first | (go_at_call 138; refine (isLetter_any _ _).mono ?_; rintro e w' ⟨rfl, rfl⟩) | (go_at_call 139; refine HNE.out.mono ?_; rintro e w' ⟨rfl, rfl⟩))
        go_ret
        exact ⟨rfl, rfl⟩
      · have qn : ((n : Int) == (s.size : Int)) = false := by rw [beq_eq_false_iff_ne]; omega
        rw [decide_eq_false hn]
        clear hn
        go_enter Tryz.func76, Tryz.ntmps76
        go_wp2_with (first | (go_at_call 138; refine (isLetter_any _ _).mono ?_; rintro e w' ⟨rfl, rfl⟩) | (go_at_call 139; refine HNE.out.mono ?_; rintro e w' ⟨rfl, rfl⟩))
        go_ret
        exact ⟨rfl, rfl⟩
end Go.Proofs.YtgjknekoehfdfaaGreatDoor
namespace Go.Proofs.YtgjknekoehfdfaaGreatDoor
open Go.RowKit
set_option linter.unusedVariables false

/-- What Tokens tells, and where it lies. -/
def TokPost (e : TypeId) (w : World) (R : LxR) (x : Ending) (w' : World) : Prop :=
  ∃ a cap, x = .returned (.tuple #[.slice a R.ts.length cap, .int .i64 R.at_, .int .i64 R.e]) ∧ w'.ownsRow w.heap.size e 6 (.slice a R.ts.length cap) R.ts.length (tcells R.ts) ∧ Below w.heap.size w w'

theorem endTok_cells (n : Nat) : (endTok n).cells = [.int .i64 0, .string ⟨#[]⟩, .int .i64 0, .int .i64 0, .string ⟨#[]⟩, .int .i64 n] := rfl

theorem tok_one (t : Tok) : ∀ u ∈ t.cells, u.oneCell' = true := by
  intro u hu
  simp [Tok.cells] at hu
  rcases hu with rfl | rfl | rfl | rfl | rfl | rfl <;> rfl
theorem blk_new1 (w : World) (o : Obj) (t : TypeId) (cs : Array Value) : Blk ((w.alloc o).alloc (.cells cs t)) (w.heap.size + 1) t cs := by
  have h := Blk.new (w.alloc o) t cs
  simpa using h
theorem spB_of {c : Int} (h : c = 32 ∨ c = 9) : spB c = true := by unfold spB; exact decide_eq_true h
theorem spB_not {c : Int} (h : ¬ (c = 32 ∨ c = 9)) : spB c = false := by unfold spB; exact decide_eq_false h

set_option maxHeartbeats 16000000 in
set_option maxRecDepth 100000 in
theorem tokens_any (s : ByteArray) (w : World) (hs : s.size ≤ 281474976710656) (hg : Glob w) :
    Calls Tryz.prog 86 #[.string s] w (TokPost 101 w (lexR s.data.toList)) := by
  obtain ⟨i0, hi0, hz0, hz1, hz2⟩ := info_parts Tryz.infoTok
  have hsl : s.data.toList.length = s.size := rfl
  by_cases hlong : 16384 < s.size
  · have hE : lexR s.data.toList = ⟨[], 0, 70⟩ := by unfold lexR; rw [if_pos (by omega)]
    rw [hE]
    clear hE
    go_enter Tryz.func86, Tryz.ntmps86
    go_wp2_with fail
    go_ret3
    exact ⟨none, 0, rfl, World.ownsRow_nil _ _ _ _, Below.refl _ _⟩
  have hE : (LX (s.data.toList.drop 0) 0).behind [] = lexR s.data.toList := by
    rw [behind_nil, List.drop_zero]; unfold lexR; rw [if_neg (by omega)]
  have hone := fun i W => one_any s i W
  unfold OneOk at hone
  have hlg : s.size ≤ 16384 := by omega
  have HONE := Lib.hid hone
  have HSL := Lib.hid hsl
  have HE := Lib.hid hE
  have HG := Lib.hid hg
  clear hone hsl hE hg hlong
  generalize lexR s.data.toList = R at *
  generalize hL : s.data.toList = l at *
  have HL := Lib.hid hL
  clear hL
  go_enter Tryz.func86, Tryz.ntmps86
  go_wp2_with fail
  go_loopw [5, 2] (fun ix v wr => ∃ (k : Nat) (acc : List Tok) (a : Option Addr) (cap : Nat), k ≤ s.size ∧ ix = .int .i64 k ∧ v = .slice a acc.length cap ∧ wr.ownsRow w.heap.size 101 6 (.slice a acc.length cap) acc.length (tcells acc) ∧ Below w.heap.size w wr ∧ acc.length ≤ k ∧ (LX (l.drop k) k).behind acc = R) (fun ix _ _ => s.size - (intOf ix).toNat)
  case atStart =>
    exact ⟨0, [], none, 0, Nat.zero_le _, rfl, rfl, World.ownsRow_nil _ _ _ _, Below.refl _ _, by simp, HE.out⟩
  case round =>
    obtain ⟨k, acc, a, cap, hk, rfl, rfl, hown, hbel, hacc, hrel⟩ := hrel
    have HR := Lib.hid hrel
    have HO := Lib.hid hown
    have HBE := Lib.hid hbel
    have hsz := hbel.size
    clear hrel hown hbel
    by_cases hlt : k < s.size
    · have hbt := bt_of s k hlt
      rw [HL.out] at hbt
      have hkl : k < l.length := by have := HSL.out; omega
      by_cases h35 : bt l k = 35
      · have HEE : Hid (R = ⟨acc ++ [endTok s.size], 0, 0⟩) := Lib.hid (by
          rw [← HR.out, behind_end acc (.inr (by rw [drop0]; exact h35))]
          rw [List.length_drop, HSL.out, Nat.add_sub_cancel' hk])
        rw [h35] at hbt
        clear h35
        go_wp2_with (at_builtin; refine wpList_append_lies _ rfl (.tmp 52) (.tmp 56) 141 rfl w.heap.size 101 i0 (.agg #[.int .i64 0, .string ⟨#[]⟩, .int .i64 0, .int .i64 0, .string ⟨#[]⟩, .int .i64 0]) 6 64 Tryz.underlying141 hi0 hz0 hz1 hz2 rfl (by decide) (.slice a acc.length cap) acc.length _ rfl (HO.out.alloc _) ⟨_, 0, none⟩ 1 1 (endTok s.size).cells rfl rfl (World.news_of_block (Blk.new _ _ _)) (tok_one _) (by decide) ?c3 ?c5 ?c4 _ rfl ?_)
        case c3 => unfold maxLen; omega
        case c5 => omega
        case c4 => simp; omega
        intro g cap1 w2 hown2 hgrow2 hat2 hlt2
        have hb2 : Below w.heap.size w w2 := (balloc HBE.out _).grown hgrow2 (by simp; omega) (fun q hq => (HO.out.lt q hq).1)
        go_wp2_with fail
        go_ret3
        rw [HEE.out]
        refine ⟨some ⟨g, 0, none⟩, cap1, by simp, ?_, hb2⟩
        rw [show (acc ++ [endTok s.size]).length = acc.length + 1 by simp, tcells_snoc]
        exact hown2
      · have q35 : (bt l k != 35) = true := by simpa using h35
        have hne : ¬ (l.drop k = [] ∨ bt (l.drop k) 0 = 35) := by
          rw [drop0]
          exact fun e => e.elim (drop_ne hkl) h35
        by_cases hsp : bt l k = 32 ∨ bt l k = 9
        · have hb := LX_blank (p := k) hne (by rw [drop0]; exact spB_of hsp)
          rw [List.drop_drop] at hb
          rw [hb] at HR
          clear h35 hne hb
          rcases hsp with h | h
          all_goals
            rw [h] at hbt
            clear h q35
            go_wp2_with fail
            go_round
            case rel => exact ⟨k + 1, acc, a, cap, by omega, by go_num, rfl, HO.out, HBE.out, by omega, HR.out⟩
            case measure => simp [intOf]; omega
        · have hspf := spB_not hsp
          rw [← drop0] at hspf
          have q32 : (bt l k == 32) = false := by rw [beq_eq_false_iff_ne]; exact fun h => hsp (.inl h)
          have q9 : (bt l k == 9) = false := by rw [beq_eq_false_iff_ne]; exact fun h => hsp (.inr h)
          have hbo := HONE.out k wr hlt (by omega) (HG.out.below HBE.out)
          have hls : R = if (oneS (l.drop k) k).2 = 0 then (LX (l.drop (k + (oneS (l.drop k) k).1.x.length)) (k + (oneS (l.drop k) k).1.x.length)).behind (acc ++ [(oneS (l.drop k) k).1]) else ⟨[], k, (oneS (l.drop k) k).2⟩ := by
            rw [← HR.out]
            split
            · rename_i hz
              rw [behind_one acc hne hspf hz, List.drop_drop]
            · rename_i hz
              exact behind_bad acc hne hspf hz
          have hlen := fun hz => one_len (r := l.drop k) (p := k) hz (drop_ne hkl)
          rw [List.length_drop, HSL.out] at hlen
          clear h35 hsp hspf hne
          generalize oneS (l.drop k) k = o at *
          obtain ⟨⟨tk, tx, tvk, tvn, tvt, tp⟩, e0⟩ := o
          unfold Tok.v at hbo
          simp only at hls hlen hbo
          have HBO := Lib.hid hbo
          clear hbo HONE HR
          by_cases he : e0 = 0
          · subst he
            obtain ⟨l1, htx, l3⟩ := hlen rfl
            clear htx
            rw [if_pos rfl] at hls
            have HLS := Lib.hid hls
            clear hls hlen
            go_wp2_with fail
            refine HBO.out.mono ?_
            rintro e w1 ⟨rfl, hb1⟩
            have hsz1 := hb1.size
            have hb1' := HBE.out.trans (hb1.mono hsz)
            have hown1 := (Mod.ofBelow (F := fun _ => False) hb1).ownsRow HO.out (fun _ _ f => f)
            have HO1 := Lib.hid hown1
            have HB1 := Lib.hid hb1'
            clear hown1 hb1 hb1'
            go_wp2_with (at_builtin; refine wpList_append_lies _ rfl (.tmp 43) (.tmp 45) 141 rfl w.heap.size 101 i0 (.agg #[.int .i64 0, .string ⟨#[]⟩, .int .i64 0, .int .i64 0, .string ⟨#[]⟩, .int .i64 0]) 6 64 Tryz.underlying141 hi0 hz0 hz1 hz2 rfl (by decide) (.slice a acc.length cap) acc.length _ rfl ((HO1.out.alloc _).alloc _) ⟨w1.heap.size + 1, 0, none⟩ 1 1 (⟨tk, tx, tvk, tvn, tvt, tp⟩ : Tok).cells rfl rfl (World.news_of_block (blk_new1 _ _ _ _)) (tok_one _) (by decide) ?c3 ?c5 ?c4 _ rfl ?_)
            case c3 => unfold maxLen; omega
            case c5 => omega
            case c4 => simp; omega
            intro g cap1 w2 hown2 hgrow2 hat2 hlt2
            have hb2 : Below w.heap.size w w2 := (balloc (balloc HB1.out _) _).grown hgrow2 (by simp; omega) (fun q hq => (HO1.out.lt q hq).1)
            have hblk := (((Blk.new w1 101 #[.int .i64 tk, .string ⟨tx.toArray⟩, .int .i64 tvk, .int .i64 tvn, .string ⟨tvt.toArray⟩, .int .i64 tp]).alloc (.cells #[.int .i64 tk, .string ⟨tx.toArray⟩, .int .i64 tvk, .int .i64 tvn, .string ⟨tvt.toArray⟩, .int .i64 tp] 101)).grown hgrow2 (fun e => by have := (HO1.out.lt _ e.symm).2; omega))
            have r1 := hblk.cell 1
            simp only [List.getElem?_toArray, List.getElem?_cons_zero, List.getElem?_cons_succ] at r1
            have HO2 := Lib.hid hown2
            clear hown2 hblk
            go_wp2_with fail
            go_round
            case rel =>
              refine ⟨k + tx.length, acc ++ [⟨tk, tx, tvk, tvn, tvt, tp⟩], some ⟨g, 0, none⟩, cap1, by omega, ?_, by simp, ?_, hb2, by simp; omega, HLS.out.symm⟩
              · go_num
              · rw [show (acc ++ [(⟨tk, tx, tvk, tvn, tvt, tp⟩ : Tok)]).length = acc.length + 1 by simp, tcells_snoc]
                exact HO2.out
            case measure => simp [intOf]; omega
          · have q0 : (e0 != 0) = true := by simpa using he
            rw [if_neg he] at hls
            have HLS := Lib.hid hls
            clear hls hlen he
            go_wp2_with fail
            refine HBO.out.mono ?_
            rintro e w1 ⟨rfl, hb1⟩
            have hb1' := HBE.out.trans (hb1.mono hsz)
            have HB1 := Lib.hid (balloc hb1' (.cells #[.int .i64 tk, .string ⟨tx.toArray⟩, .int .i64 tvk, .int .i64 tvn, .string ⟨tvt.toArray⟩, .int .i64 tp] 101))
            clear hb1 hb1'
            go_wp2_with fail
            go_ret3
            rw [HLS.out]
            exact ⟨none, 0, rfl, World.ownsRow_nil _ _ _ _, HB1.out⟩
    · have hke : k = s.size := by omega
      subst hke
      have HEE : Hid (R = ⟨acc ++ [endTok s.size], 0, 0⟩) := Lib.hid (by
        rw [← HR.out, behind_end acc (.inl (List.drop_of_length_le (by have := HSL.out; omega)))]
        rw [List.length_drop, HSL.out, Nat.sub_self, Nat.add_zero])
      go_wp2_with (at_builtin; refine wpList_append_lies _ rfl (.tmp 52) (.tmp 56) 141 rfl w.heap.size 101 i0 (.agg #[.int .i64 0, .string ⟨#[]⟩, .int .i64 0, .int .i64 0, .string ⟨#[]⟩, .int .i64 0]) 6 64 Tryz.underlying141 hi0 hz0 hz1 hz2 rfl (by decide) (.slice a acc.length cap) acc.length _ rfl (HO.out.alloc _) ⟨_, 0, none⟩ 1 1 (endTok s.size).cells rfl rfl (World.news_of_block (Blk.new _ _ _)) (tok_one _) (by decide) ?c3 ?c5 ?c4 _ rfl ?_)
      case c3 => unfold maxLen; omega
      case c5 => omega
      case c4 => simp; omega
      intro g cap1 w2 hown2 hgrow2 hat2 hlt2
      have hb2 : Below w.heap.size w w2 := (balloc HBE.out _).grown hgrow2 (by simp; omega) (fun q hq => (HO.out.lt q hq).1)
      go_wp2_with fail
      go_ret3
      rw [HEE.out]
      refine ⟨some ⟨g, 0, none⟩, cap1, by simp, ?_, hb2⟩
      rw [show (acc ++ [endTok s.size]).length = acc.length + 1 by simp, tcells_snoc]
      exact hown2
end Go.Proofs.YtgjknekoehfdfaaGreatDoor
