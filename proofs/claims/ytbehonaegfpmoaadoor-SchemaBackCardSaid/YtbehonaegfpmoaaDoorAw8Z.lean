/- osierlaw08.awake, walked. -/
import Derived.Test.YtbehonaegfpmoaaDoorGo
import Derived.Test.YtbehonaegfpmoaaDoorSc2Z
import Derived.Test.YtbehonaegfpmoaaDoorKc3Z
import Derived.Test.YtbehonaegfpmoaaDoorSsZ
import Derived.KernelRfl
namespace Go.Proofs.YtbehonaegfpmoaaDoor
open Go.RowKit
set_option linter.unusedVariables false

def bsA8 : ByteArray := ⟨#[82, 40, 97, 32, 105, 110, 116, 41]⟩
theorem a8_e : (lexR bsA8.data.toList).e = 0 := by kernel_rfl
theorem a8_q : schT (lexR bsA8.data.toList).ts = .ok ⟨[82], [⟨[97], 1⟩]⟩ [] := by kernel_rfl
theorem a8_c : chkC [82] [⟨[97], 1⟩] = 0 := by kernel_rfl
theorem a8_s : showC [82] [⟨[97], 1⟩] = [82, 40, 97, 32, 105, 110, 116, 41] := by kernel_rfl

/-- schema.Parse of a line that is cut into tokens. -/
theorem sch_line (s : ByteArray) (w : World) (hs : s.size ≤ 281474976710656) (hg : Glob w) (he : (lexR s.data.toList).e = 0) :
    Calls Tryd.prog 32 #[.string s] w (SPost w (schT (lexR s.data.toList).ts)) :=
  sch_good s w _ fun W hb => open_good s W hs (hg.below hb) he
theorem sch_fault (s : ByteArray) (w : World) (hs : s.size ≤ 281474976710656) (hg : Glob w) (he : (lexR s.data.toList).e ≠ 0) :
    Calls Tryd.prog 32 #[.string s] w (SPost w (.bad (lexR s.data.toList).at_ (lexR s.data.toList).e)) :=
  sch_bad s w _ _ fun W hb => open_bad s W hs (hg.below hb) he

theorem own1c {w : World} {B : Nat} {e : TypeId} {sz : Nat} {v : Value} {xs : List Value} (h : w.ownsRow B e sz v 1 xs) : ∃ (g cap : Nat), v = .slice (some ⟨g, 0, none⟩) 1 cap ∧ 1 ≤ cap ∧ cap ≤ maxLen ∧ g < w.heap.size ∧ ∀ (i : Nat) (u : Value), i < sz → xs[i]? = some u → w.cell? ⟨g, i, none⟩ = some u := by
  rcases h.2 with ⟨_, h0⟩ | ⟨g, cap, cur, rfl, _, hg, hnc, hcm, _⟩
  · omega
  · exact ⟨g, cap, rfl, hnc, hcm, (Array.getElem?_eq_some_iff.1 hg).1, fun i u hi hu => (h.cellAt i (by omega)).trans hu⟩

set_option maxHeartbeats 4000000 in
set_option maxRecDepth 100000 in
theorem awake08 (w : World) (hg : Glob w) : Calls Tryd.prog 34 #[] w fun e w' => e = .returned (.bool true) ∧ Below w.heap.size w w' := by
  have heq : ∀ w, (binOp .eql 78 (.agg #[.string ⟨#[97]⟩, .int .i64 1]) (.agg #[.string ⟨#[97]⟩, .int .i64 1])).run Tryd.prog w = .ok (.bool true) w := fun w => eql_col ⟨[97], 1⟩ ⟨[97], 1⟩ w
  have hp := sch_line bsA8 w (by decide) hg a8_e
  rw [a8_q] at hp
  have HP := Lib.hid hp
  clear hp hg
  unfold bsA8 at HP
  go_enter Tryd.func34, Tryd.ntmps34
  go_wp2_with fail
  refine HP.out.mono ?_
  rintro e w1 ⟨cv, rfl, hown, hb⟩
  obtain ⟨g, c, rfl, _, hcm, hgl, hce⟩ := own1c (show w1.ownsRow w.heap.size 78 2 cv 1 _ from hown)
  have c0 := hce 0 _ (by decide) rfl
  have c1 := hce 1 _ (by decide) rfl
  unfold maxLen at hcm
  have hat := ColsOwn.at hown (by decide)
  have hs := show_good (w1.alloc (.cells #[.string ⟨#[82]⟩, .slice (some ⟨g, 0, none⟩) 1 c] 58)) ⟨#[82]⟩ (.slice (some ⟨g, 0, none⟩) 1 c) [⟨[97], 1⟩] (hat.keep (balloc (Below.refl _ _) _)) a8_c
  rw [show showC (⟨#[82]⟩ : ByteArray).data.toList [⟨[97], 1⟩] = _ from a8_s] at hs
  have HS := Lib.hid hs
  have HB := Lib.hid (balloc hb (.cells #[.string ⟨#[82]⟩, .slice (some ⟨g, 0, none⟩) 1 c] 58))
  clear hown hce hat hs hb
  go_wp2_with fail
  refine HS.out.mono ?_
  rintro e w2 ⟨rfl, hb2⟩
  have HB2 := Lib.hid (HB.out.trans (hb2.mono HB.out.size))
  clear hb2
  go_wp2_with fail
  go_ret
  exact ⟨rfl, HB2.out⟩
end Go.Proofs.YtbehonaegfpmoaaDoor
