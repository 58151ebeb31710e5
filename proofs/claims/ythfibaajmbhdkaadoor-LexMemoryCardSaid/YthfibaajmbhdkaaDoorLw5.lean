/- osierlaw07.same over the same tokens; the laws LexTokens, LexMemory given the document's Tokens. -/
import Derived.Test.YthfibaajmbhdkaaDoorLw1
namespace Go.Proofs.YthfibaajmbhdkaaDoor
open Go.RowKit
set_option linter.unusedVariables false

set_option maxHeartbeats 8000000 in
set_option maxRecDepth 100000 in
theorem same_any (ts : List Tok) (hn : ts.length ≤ 140737488355328) (a b : Option Addr) (c d B1 B2 : Nat) (w : World) (h1 : w.ownsRow B1 37 6 (.slice a ts.length c) ts.length (tcells ts)) (h2 : w.ownsRow B2 57 6 (.slice b ts.length d) ts.length (tcells ts)) :
    Calls Tryd.prog 21 #[.slice a ts.length c, .slice b ts.length d] w fun e w' => e = .returned (.bool true) ∧ Below w.heap.size w w' := by
  have H1 := Lib.hid h1
  have H2 := Lib.hid h2
  clear h1 h2
  go_enter Tryd.func21, Tryd.ntmps21
  go_wp2_with fail
  go_loopw [13] (fun ix wr => ∃ i : Nat, i ≤ ts.length ∧ ix = .int .i64 i ∧ Below w.heap.size w wr ∧ wr.ownsRow B1 37 6 (.slice a ts.length c) ts.length (tcells ts) ∧ wr.ownsRow B2 57 6 (.slice b ts.length d) ts.length (tcells ts)) (fun ix _ => ts.length - (intOf ix).toNat)
  case atStart => exact ⟨0, Nat.zero_le _, rfl, Below.refl _ _, H1.out, H2.out⟩
  case round =>
    obtain ⟨i, hi, rfl, hbr, hr1, hr2⟩ := hrel
    have HBR := Lib.hid hbr
    have HR1 := Lib.hid hr1
    have HR2 := Lib.hid hr2
    clear hbr hr1 hr2
    by_cases hlt : i < ts.length
    · obtain ⟨t, ht⟩ : ∃ t, ts[i]? = some t := ⟨ts[i], List.getElem?_eq_getElem hlt⟩
      obtain ⟨g1, rfl, _, _⟩ := own_some HR1.out (by omega)
      obtain ⟨g2, rfl, _, _⟩ := own_some HR2.out (by omega)
      obtain ⟨c0, c1, c2, c3, c4, c5⟩ := own_tok HR1.out rfl ht
      obtain ⟨d0, d1, d2, d3, d4, d5⟩ := own_tok HR2.out rfl ht
      clear ht
      go_wp2_with fail
      go_quiet (fail)
      go_wp2_with fail
      go_roundw
      case rel => exact ⟨i + 1, by omega, by go_num, bdrewN HBR.out _, HR1.out, HR2.out⟩
      case measure => simp only [intOf]; omega
    · have hie : i = ts.length := by omega
      subst hie
      go_wp2_with fail
      go_ret
      exact ⟨rfl, HBR.out⟩

/-- The document's Tokens tells what the program's tells. -/
def RefTok : Prop := ∀ (s : ByteArray) (w : World), s.size ≤ 281474976710656 → Glob w → Calls Tryd.prog 19 #[.string s] w (TokPost 57 w (lexR s.data.toList))

set_option maxHeartbeats 8000000 in
set_option maxRecDepth 100000 in
theorem tokens_law_of (HRT : RefTok) (s : ByteArray) (w : World) (hs : s.size ≤ 140737488351232) (hg : Glob w) :
    Calls Tryd.prog 3 #[.string s] w fun e w' => e = .returned (.bool true) ∧ Below w.heap.size w w' := by
  have hT := fun W => tokens_any s W (by omega)
  have hU := fun W => HRT s W (by omega)
  unfold TokPost at hT hU
  have hct := lexR_count s.data.toList
  rw [show s.data.toList.length = s.size from rfl] at hct
  have HG := Lib.hid hg
  generalize lexR s.data.toList = R at *
  obtain ⟨ts, p, e0⟩ := R
  simp only at hT hU hct
  have hct2 : ts.length ≤ 140737488355328 := by omega
  have HT := Lib.hid hT
  have HU := Lib.hid hU
  clear hT hU hg HRT
  go_enter Tryd.func3, Tryd.ntmps3
  go_wp2_with fail
  refine (HT.out _ HG.out).mono ?_
  rintro e w1 ⟨a, cap, rfl, hown1, hb1⟩
  have HB1 := Lib.hid hb1
  have HO1 := Lib.hid hown1
  clear hb1 hown1
  go_wp2_with fail
  refine (HU.out _ (HG.out.below HB1.out)).mono ?_
  rintro e w2 ⟨b, cap2, rfl, hown2, hb2⟩
  have HB2 := Lib.hid (HB1.out.trans (hb2.mono HB1.out.size))
  have HO1b := Lib.hid ((Mod.ofBelow (F := fun _ => False) hb2).ownsRow HO1.out (fun _ _ f => f))
  have HO2 := Lib.hid hown2
  clear hb2 hown2
  go_wp2_with fail
  refine (awake07 _ (HG.out.below HB2.out)).mono ?_
  rintro e w3 ⟨rfl, hb3⟩
  have HB3 := Lib.hid (HB2.out.trans (hb3.mono HB2.out.size))
  have HO1c := Lib.hid ((Mod.ofBelow (F := fun _ => False) hb3).ownsRow HO1b.out (fun _ _ f => f))
  have HO2c := Lib.hid ((Mod.ofBelow (F := fun _ => False) hb3).ownsRow HO2.out (fun _ _ f => f))
  clear hb3
  go_wp2_with fail
  refine (same_any ts hct2 a b cap cap2 _ _ _ HO1c.out HO2c.out).mono ?_
  rintro e w4 ⟨rfl, hb4⟩
  have HB4 := Lib.hid (HB3.out.trans (hb4.mono HB3.out.size))
  clear hb4
  go_wp2_with fail
  go_ret
  exact ⟨by first | rfl | simp, HB4.out⟩
end Go.Proofs.YthfibaajmbhdkaaDoor
