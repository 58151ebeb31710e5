/- osierref08.Open, walked. -/
import Derived.Test.YtgilflkgibfjgaaGreatDoorGf
import Derived.Test.YtgilflkgibfjgaaGreatDoorGo
import Derived.Test.YtgilflkgibfjgaaGreatDoorRl2Z
namespace Go.Proofs.YtgilflkgibfjgaaGreatDoor
open Go.RowKit
set_option linter.unusedVariables false

def startS (R : LxR) : LS := if R.e = 0 then .ok R.ts else .bad R.at_ R.e
theorem startS_good (l : List UInt8) : Good (startS (lexR l)) := by
  unfold startS
  by_cases h : (lexR l).e = 0
  · rw [if_pos h]
    exact (lex_ended h).1
  · rw [if_neg h]
    exact h

set_option maxHeartbeats 1000000 in
set_option maxRecDepth 100000 in
theorem refOpen_any (s : ByteArray) (w : World) (hs : s.size ≤ 281474976710656) (hg : Glob w) :
    Calls Tryz.prog 40 #[.string s] w fun e w' => ∃ b vt, e = .returned (.pointer (some ⟨b, 0, none⟩)) ∧ w.heap.size ≤ b ∧ Ln w' b (startS (lexR s.data.toList)) vt ∧ Below w.heap.size w w' := by
  have ht := refTokens_any s w hs hg
  have hc := lexR_count s.data.toList
  have hlen : (lexR s.data.toList).ts.length ≤ 100000 := by
    by_cases hl : 16384 < s.data.toList.length
    · unfold lexR
      rw [if_pos hl]
      decide
    · omega
  have hE : ∀ (W : World) (b : Nat) (vt : Value), Blk W b 80 #[vt, .int .i64 0, .int .i64 (lexR s.data.toList).at_, .int .i64 (lexR s.data.toList).e] → W.ownsRow 0 82 6 vt (lexR s.data.toList).ts.length (tcells (lexR s.data.toList).ts) → Ln W b (startS (lexR s.data.toList)) vt := by
    intro W b vt h1 h2
    refine ⟨(lexR s.data.toList).ts, 0, _, _, ⟨h1, h2, hlen, by decide⟩, ?_⟩
    unfold startS
    split
    · rename_i heq
      split at heq
      · cases heq
      · injection heq with e1 e2
        exact ⟨e1, e2⟩
    · rename_i heq
      split at heq
      · rename_i he
        injection heq with e1
        exact ⟨he, e1⟩
      · cases heq
  have HE := Lib.hid hE
  have HT := Lib.hid ht
  clear ht hc hlen hE
  generalize lexR s.data.toList = R at *
  obtain ⟨ts, p, e0⟩ := R
  unfold TokPost at HT
  simp only at HT HE
  go_enter Tryz.func40, Tryz.ntmps40
  go_wp2_with fail
  refine HT.out.mono ?_
  rintro e w1 ⟨ad, cap, rfl, hown, hb⟩
  have HB := Lib.hid hb
  have HO := Lib.hid (World.ownsRow.low hown (Nat.zero_le _))
  have hz := hb.size
  clear hown hb
  go_wp2_with fail
  go_ret
  exact ⟨w1.heap.size, _, rfl, hz, HE.out _ _ _ (Blk.new _ _ _) (HO.out.alloc _), balloc HB.out _⟩
end Go.Proofs.YtgilflkgibfjgaaGreatDoor
