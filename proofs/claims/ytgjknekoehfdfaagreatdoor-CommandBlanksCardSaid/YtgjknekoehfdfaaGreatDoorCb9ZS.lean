/- CommandBlanks, walked. -/
import Derived.Test.YtgjknekoehfdfaaGreatDoorDdS
namespace Go.Proofs.YtgjknekoehfdfaaGreatDoor
open Go.RowKit
set_option linter.unusedVariables false

theorem blank_cmd {l : List UInt8} (h : blankB l = true) : cmdT l = .bad l.length 250 := by
  unfold blankB at h
  obtain ⟨he, hn⟩ := of_decide_eq_true h
  have hl : l.length ≤ 16384 := by
    rcases Nat.lt_or_ge 16384 l.length with q | q
    · rw [lexR_long q] at he; simp at he
    · exact q
  obtain ⟨t, c, hts⟩ := (lex_ended he).1.some
  have hc : c = [] := by rw [hts] at hn; simpa using hn
  subst hc
  have ht : t = endTok l.length := by
    have hti := LX_tiles l l.length 0 (Nat.zero_le _) (by omega)
    rw [List.drop_zero, ← lexR_short hl] at hti
    have ht := hti he
    rw [hts] at ht
    cases ht with
    | last => rfl
    | more _ _ _ _ _ _ _ hr => cases hr
  have hk : kindC t = 0 := kindC_name (by rw [ht]; exact fun q => absurd q (by decide : (0 : Int) ≠ 1))
  unfold cmdT parseC
  rw [if_neg (by simp [he]), hts]
  simp only
  rw [if_pos hk, ht]
  rfl

set_option maxHeartbeats 4000000 in
set_option maxRecDepth 100000 in
theorem blanks_law25 (s : ByteArray) (w : World) (hs0 : s.size ≤ 140737488351232) (hg : GlobW w) :
    Calls Tryz.prog 8 #[.string s] w fun e w' => e = .returned (.bool true) ∧ Below w.heap.size w w' := by
  have hs : s.size ≤ 281474976710656 := by omega
  have hsl : s.data.toList.length = s.size := rfl
  have HBL := Lib.hid (blank_any s w hs hg.g)
  have HRB := Lib.hid (fun W (hW : Below w.heap.size w W) => refBlank_any s W hs (hg.below hW).g)
  have HPA := Lib.hid (fun W (hW : Below w.heap.size w W) => cmd_any s W hs (hg.below hW))
  have HAW := Lib.hid (fun W (hW : Below w.heap.size w W) => awake25 W (hg.below hW))
  have hbc := fun (q : blankB s.data.toList = true) => blank_cmd q
  rw [hsl] at hbc
  clear hg
  generalize cmdT s.data.toList = P at *
  generalize blankB s.data.toList = bl at *
  cases bl with
  | true =>
    have hP := hbc rfl
    subst hP
    clear hbc
    go_enter Tryz.func8, Tryz.ntmps8
    go_wp2_with fail
    refine HBL.out.mono ?_
    rintro e w1 ⟨rfl, hb1⟩
    have HB1 := Lib.hid hb1
    have HP1 := Lib.hid (HPA.out w1 hb1)
    clear hb1 HBL HPA
    go_wp2_with fail
    refine HP1.out.mono ?_
    rintro e w2 ⟨rfl, hb2⟩
    have hb3 := balloc (HB1.out.trans (hb2.mono HB1.out.size)) (.cells #[.int .i64 0, .string ⟨#[]⟩, .slice none 0 0, .string ⟨#[]⟩, .slice none 0 0, .slice none 0 0, .slice none 0 0, .string ⟨#[]⟩, .int .i64 0, .int .i64 0, .slice none 0 0] 43)
    have HB3 := Lib.hid hb3
    have HA3 := Lib.hid (HAW.out _ hb3)
    clear hb2 hb3 HAW HP1 HB1
    go_wp2_with fail
    refine HA3.out.mono ?_
    rintro e w4 ⟨rfl, hb4⟩
    have hb5 := HB3.out.trans (hb4.mono HB3.out.size)
    have HB5 := Lib.hid hb5
    have HR5 := Lib.hid (HRB.out _ hb5)
    clear hb4 hb5 HA3 HRB HB3
    go_wp2_with fail
    refine HR5.out.mono ?_
    rintro e w6 ⟨rfl, hb6⟩
    have HB7 := Lib.hid (HB5.out.trans (hb6.mono HB5.out.size))
    clear hb6
    go_wp2_with fail
    go_ret
    exact ⟨by first | rfl | simp, HB7.out⟩
  | false =>
    clear hbc
    have hpp : ∀ W (hW : Below w.heap.size w W), Calls Tryz.prog 23 #[.string s] W fun e w' => ∃ (k : Int) (x1 x2 x3 : ByteArray) (o1 o2 o3 o4 o5 : Option Addr) (l1 d1 l2 d2 l3 d3 l4 d4 l5 d5 : Nat) (i n a f : Int), e = .returned (.tuple #[.agg #[.int .i64 k, .string x1, .slice o1 l1 d1, .string x2, .slice o2 l2 d2, .slice o3 l3 d3, .slice o4 l4 d4, .string x3, .int .i64 i, .int .i64 n, .slice o5 l5 d5], .int .i64 a, .int .i64 f]) ∧ Below W.heap.size W w' := by
      intro W hW
      refine (HPA.out W hW).mono ?_
      intro e w' h
      cases P with
      | bad a f => exact ⟨_, _, _, _, _, _, _, _, _, _, _, _, _, _, _, _, _, _, _, _, _, _, _, h.1, h.2⟩
      | ok c r =>
        obtain ⟨cells, rfl, ho, hb⟩ := h
        obtain ⟨o1, o2, o3, o4, o5, d1, d2, d3, d4, d5, rfl⟩ := ho.form
        exact ⟨_, _, _, _, _, _, _, _, _, _, _, _, _, _, _, _, _, _, _, _, _, _, _, rfl, hb⟩
    have HPP := Lib.hid hpp
    clear hpp HPA
    go_enter Tryz.func8, Tryz.ntmps8
    go_wp2_with fail
    refine HBL.out.mono ?_
    rintro e w1 ⟨rfl, hb1⟩
    have HB1 := Lib.hid hb1
    have HP1 := Lib.hid (HPP.out w1 hb1)
    clear hb1 HBL HPP
    go_wp2_with fail
    refine HP1.out.mono ?_
    rintro e w2 ⟨k, x1, x2, x3, o1, o2, o3, o4, o5, l1, d1, l2, d2, l3, d3, l4, d4, l5, d5, i, n, a, f, rfl, hb2⟩
    have hb3 := balloc (HB1.out.trans (hb2.mono HB1.out.size)) (.cells #[.int .i64 k, .string x1, .slice o1 l1 d1, .string x2, .slice o2 l2 d2, .slice o3 l3 d3, .slice o4 l4 d4, .string x3, .int .i64 i, .int .i64 n, .slice o5 l5 d5] 43)
    have HB3 := Lib.hid hb3
    have HA3 := Lib.hid (HAW.out _ hb3)
    clear hb2 hb3 HAW HP1 HB1
    go_wp2_with fail
    refine HA3.out.mono ?_
    rintro e w4 ⟨rfl, hb4⟩
    have hb5 := HB3.out.trans (hb4.mono HB3.out.size)
    have HB5 := Lib.hid hb5
    have HR5 := Lib.hid (HRB.out _ hb5)
    clear hb4 hb5 HA3 HRB HB3
    go_wp2_with fail
    refine HR5.out.mono ?_
    rintro e w6 ⟨rfl, hb6⟩
    have HB7 := Lib.hid (HB5.out.trans (hb6.mono HB5.out.size))
    clear hb6
    go_wp2_with fail
    go_ret
    exact ⟨by first | rfl | simp, HB7.out⟩
end Go.Proofs.YtgjknekoehfdfaaGreatDoor
