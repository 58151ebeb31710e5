/- osierlaw09.awake, walked. -/
import Derived.Test.YtgilflkgibfjgaaGreatDoorGo
import Derived.Test.YtgilflkgibfjgaaGreatDoorQpZ
import Derived.Test.YtgilflkgibfjgaaGreatDoorGm
import Derived.KernelRfl
namespace Go.Proofs.YtgilflkgibfjgaaGreatDoor
open Go.RowKit
set_option linter.unusedVariables false

def bsAw : ByteArray := ⟨#[81, 40, 120, 41, 32, 58, 45, 32, 82, 40, 120, 44, 32, 53, 41]⟩
def tsAw : List Trm := [⟨[120], 0, 0, []⟩, ⟨[], 1, 5, []⟩]
def vsAw : List Vl := [⟨2, 0, [97]⟩, ⟨1, 5, []⟩]
theorem aw_e : (lexR bsAw.data.toList).e = 0 := by kernel_rfl
theorem aw_q : queryT (lexR bsAw.data.toList).ts = .ok ⟨[81], [[120]], [⟨[82], tsAw⟩]⟩ [] := by kernel_rfl
theorem aw_m : matchR tsAw vsAw = some [⟨2, 0, [97]⟩] := by kernel_rfl

/-- query.Parse of a line that is cut into tokens. -/
theorem parse_line (s : ByteArray) (w : World) (hs : s.size ≤ 281474976710656) (hg : Glob w) (he : (lexR s.data.toList).e = 0) :
    Calls Tryz.prog 54 #[.string s] w (QPost w (queryT (lexR s.data.toList).ts)) :=
  parse_good s w _ fun W hb => open_good s W hs (hg.below hb) he
theorem parse_fault (s : ByteArray) (w : World) (hs : s.size ≤ 281474976710656) (hg : Glob w) (he : (lexR s.data.toList).e ≠ 0) :
    Calls Tryz.prog 54 #[.string s] w (QPost w (.bad (lexR s.data.toList).at_ (lexR s.data.toList).e)) :=
  parse_bad s w _ _ fun W hb => open_bad s W hs (hg.below hb) he

theorem own1 {w : World} {B : Nat} {e : TypeId} {sz : Nat} {v : Value} {xs : List Value} (h : w.ownsRow B e sz v 1 xs) : ∃ (g cap : Nat), v = .slice (some ⟨g, 0, none⟩) 1 cap ∧ 1 ≤ cap ∧ cap ≤ maxLen ∧ g < w.heap.size ∧ ∀ (i : Nat) (u : Value), i < sz → xs[i]? = some u → w.cell? ⟨g, i, none⟩ = some u := by
  rcases h.2 with ⟨_, h0⟩ | ⟨g, cap, cur, rfl, _, hg, hnc, hcm, _⟩
  · omega
  · exact ⟨g, cap, rfl, hnc, hcm, (Array.getElem?_eq_some_iff.1 hg).1, fun i u hi hu => (h.cellAt i (by omega)).trans hu⟩

set_option maxHeartbeats 4000000 in
set_option maxRecDepth 100000 in
theorem awake09 (w : World) (hg : Glob w) : Calls Tryz.prog 17 #[] w fun e w' => e = .returned (.bool true) ∧ Below w.heap.size w w' := by
  have hp := parse_line bsAw w (by decide) hg aw_e
  rw [aw_q] at hp
  have HP := Lib.hid hp
  clear hp hg
  unfold bsAw at HP
  go_enter Tryz.func17, Tryz.ntmps17
  go_wp2_with fail
  refine HP.out.mono ?_
  rintro e w1 ⟨hv, av, rfl, hh, ⟨rows, ha, hr⟩, hb⟩
  obtain ⟨gh, ch, rfl, _, hcm1, hgl, hc⟩ := own1 hh
  have c0 := hc 0 _ (by decide) rfl
  obtain ⟨r0, rfl, hr0⟩ : ∃ r0, rows = [r0] ∧ AtmO w.heap.size w1 r0 ⟨[82], tsAw⟩ := by
    match rows, hr with
    | [r0], h => exact ⟨r0, rfl, h.1⟩
  obtain ⟨tv, rfl, ht⟩ := hr0
  obtain ⟨ga, ca, rfl, _, hcm2, hgal, hac⟩ := own1 ha
  have d0 := hac 0 _ (by decide) rfl
  have d1 := hac 1 _ (by decide) rfl
  have htr : RowAt w1 tv 4 (tsAw.map Trm.cells) := RowAt.ofOwn (by rw [map_flat]; exact ht) rfl (trm_len _) (by decide)
  obtain ⟨ta, tc, rfl, _, _⟩ := htr.form
  unfold maxLen at hcm1 hcm2
  have hz := hb.size
  have HB := Lib.hid hb
  have HTR := Lib.hid htr
  have hM : ∀ (O1 : Obj), Calls Tryz.prog 55 #[.agg #[.string ⟨#[82]⟩, .slice ta (tsAw.map Trm.cells).length tc], .slice (some ⟨w1.heap.size + 1, 0, none⟩) 2 2] ((w1.alloc O1).alloc (.cells #[.int .i64 2, .int .i64 0, .string ⟨#[97]⟩, .int .i64 1, .int .i64 5, .string ⟨#[]⟩] 65)) (MatchPost ((w1.alloc O1).alloc (.cells #[.int .i64 2, .int .i64 0, .string ⟨#[97]⟩, .int .i64 1, .int .i64 5, .string ⟨#[]⟩] 65)) (some [⟨2, 0, [97]⟩])) := fun O1 => by
    have := match_any ((w1.alloc O1).alloc (.cells #[.int .i64 2, .int .i64 0, .string ⟨#[97]⟩, .int .i64 1, .int .i64 5, .string ⟨#[]⟩] 65)) ⟨#[82]⟩ (.slice ta (tsAw.map Trm.cells).length tc) (.slice (some ⟨w1.heap.size + 1, 0, none⟩) 2 2) tsAw vsAw (htr.keep (balloc (balloc (Below.refl _ _) _) _)) (RowAt.ofOwn (base := 0) (e := 65) (n := 2) (by
        have h := World.ownsRow_lit (base := 0) (e := 65) (size := 3) (w1.alloc O1) #[.int .i64 2, .int .i64 0, .string ⟨#[97]⟩, .int .i64 1, .int .i64 5, .string ⟨#[]⟩] 2 (Nat.zero_le _) (by decide) rfl
        simpa [vsAw, Vl.cells] using h) rfl (by intro x hx; simp [vsAw] at hx; rcases hx with rfl | rfl <;> rfl) (by decide)) (by decide) (by decide)
    rwa [aw_m] at this
  have HM := Lib.hid hM
  clear hh ha hr hc hac hb ht htr hM
  go_wp2_with fail
  refine (HM.out _).mono ?_
  rintro e w2 ⟨v, rfl, ho, hb2⟩
  obtain ⟨gv, cv, rfl, _, hcm3, hgv, hcv⟩ := own1 ho
  have e2 := hcv 2 _ (by decide) rfl
  unfold maxLen at hcm3
  have HB2 := Lib.hid ((balloc (balloc HB.out _) _).trans (hb2.mono (by simp; omega)))
  clear ho hcv hb2
  go_wp2_with fail
  go_ret
  exact ⟨rfl, HB2.out⟩
end Go.Proofs.YtgilflkgibfjgaaGreatDoor
