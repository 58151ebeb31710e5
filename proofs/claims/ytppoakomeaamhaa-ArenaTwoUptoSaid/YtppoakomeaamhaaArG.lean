/- awake; ArenaNews. -/
import Derived.Test.YtppoakomeaamhaaArF
namespace Go.Proofs.Ytppoakomeaamhaa
open Go.RowKit

theorem anow_below {w w' : World} {T E : TypeId} {p : Nat} {most gens : Int} {sl : List Slot} {fr : List Int} {live : Int} {vs vf vs' vf' : Value} {B : Nat} (h : ANow w w' T E p most gens sl fr live vs vf vs' vf') (hB : B ≤ w.heap.size) (hF : ∀ k, foot p vs vf k → B ≤ k) : Below B w w' :=
  h.mod.below hB hF

set_option maxHeartbeats 1000000 in
theorem awake_true (w : World) : Calls Try.prog 10 #[] w fun e w' => e = .returned (.bool true) ∧ Below w.heap.size w w' := by
  go_enter Try.func10, Try.ntmps10
  go_wp2_with fail
  refine (new_good 1 1 w (by omega) (by omega) (by omega) (by omega)).mono ?_
  rintro e w1 ⟨rfl, rfl⟩
  go_wp2_with fail
  refine (take_new _ _ _ _ [] _ _ _ 7 (empty_rep w _ _ 1 1) (by simp) (by simp) (by omega) (by omega)).mono ?_
  rintro e w2 ⟨rfl, vs, hn⟩
  have hb0 : Below w.heap.size w w2 := (balloc (Below.refl _ _) _).trans (anow_below hn (by simp) (by rintro k (rfl | hk | hk) <;> simp [Value.ownBlock] at *))
  have hs0 := hb0.size
  have HN := Lib.hid hn
  clear hn
  go_wp2_with fail
  refine (at_yes _ _ _ _ _ _ _ _ _ (HN.out.rep.keep (balloc (Below.refl _ _) _)) 0 ⟨1, true, .int .i64 7⟩ rfl rfl 1 rfl).mono ?_
  rintro e w3 ⟨rfl, hb⟩
  have c0 := hb.cell (p := ⟨w2.heap.size, 0, none⟩) (by simp)
  have c1 := hb.cell (p := ⟨w2.heap.size, 1, none⟩) (by simp)
  simp at c0 c1
  go_wp2_with fail
  go_ret
  exact ⟨rfl, hb0.trans (((balloc (Below.refl _ _) _).trans (hb.mono (by simp))).mono hs0)⟩

set_option maxHeartbeats 400000 in
theorem news_good (s g : Int) (w : World) (h1 : 1 ≤ s) (h2 : s ≤ 1048576) (h3 : 1 ≤ g) (h4 : g ≤ 1073741824) :
    Calls Try.prog 9 #[.int .i64 s, .int .i64 g] w fun e w' => e = .returned (.tuple #[.pointer (some ⟨w.heap.size, 0, none⟩), .int .i64 0]) ∧
      w' = w.alloc (.cells #[.int .i64 s, .int .i64 g, .slice none 0 0, .slice none 0 0, .int .i64 0] 58) := by
  go_enter Try.func9, Try.ntmps9
  go_wp2
  go_ret2
  exact ⟨rfl, rfl⟩

set_option maxHeartbeats 400000 in
theorem news_bad (s g : Int) (w : World) (h : goodB s g = false) :
    Calls Try.prog 9 #[.int .i64 s, .int .i64 g] w fun e w' => e = .returned (.tuple #[.pointer none, .int .i64 30]) ∧ w = w' := by
  have hx : ¬ (1 ≤ s ∧ s ≤ 1048576 ∧ 1 ≤ g ∧ g ≤ 1073741824) := by simpa [goodB] using h
  clear h
  by_cases h1 : 1 ≤ s <;> by_cases h2 : s ≤ 1048576 <;> by_cases h3 : 1 ≤ g <;> by_cases h4 : g ≤ 1073741824
  all_goals first
    | (exfalso; exact hx ⟨h1, h2, h3, h4⟩)
    | (clear hx
       go_enter Try.func9, Try.ntmps9
       go_wp2
       go_ret2
       exact ⟨rfl, rfl⟩)

set_option maxHeartbeats 400000 in
theorem lens_fresh (w : World) (p : Nat) (s g : Int) (hb : Blk w p 58 #[.int .i64 s, .int .i64 g, .slice none 0 0, .slice none 0 0, .int .i64 0]) :
    Calls Try.prog 12 #[.pointer (some ⟨p, 0, none⟩)] w fun e w' => e = .returned (.int .i64 0) ∧ w = w' := by
  have c4 := hb.cell 4
  simp at c4
  clear hb
  go_enter Try.func12, Try.ntmps12
  go_wp2
  go_ret
  exact ⟨rfl, rfl⟩

set_option maxHeartbeats 400000 in
theorem rooms_fresh (w : World) (p : Nat) (s g : Int) (h1 : 1 ≤ s) (h2 : s ≤ 1048576) (hb : Blk w p 58 #[.int .i64 s, .int .i64 g, .slice none 0 0, .slice none 0 0, .int .i64 0]) :
    Calls Try.prog 13 #[.pointer (some ⟨p, 0, none⟩)] w fun e w' => e = .returned (.int .i64 s) ∧ Below w.heap.size w w' := by
  have c0 := hb.cell 0
  have c2 := hb.cell 2
  have c3 := hb.cell 3
  simp at c0 c2 c3
  clear hb
  go_enter Try.func13, Try.ntmps13
  go_wp2
  go_quiet (fail)
  go_wp2
  go_ret
  exact ⟨rfl, bdrewN (Below.refl _ _) _⟩

set_option maxHeartbeats 1000000 in
theorem news_law (s g : Int) (w : World) : Calls Try.prog 3 #[.int .i64 s, .int .i64 g] w fun e w' => e = .returned (.bool true) ∧ Below w.heap.size w w' := by
  by_cases hg : goodB s g = true
  · obtain ⟨h1, h2, h3, h4⟩ : 1 ≤ s ∧ s ≤ 1048576 ∧ 1 ≤ g ∧ g ≤ 1073741824 := by simpa [goodB] using hg
    go_enter Try.func3, Try.ntmps3
    go_wp2_with fail
    refine (news_good s g w h1 h2 h3 h4).mono ?_
    rintro e w1 ⟨rfl, rfl⟩
    go_wp2_with fail
    refine (awake_true _).mono ?_
    rintro e w2 ⟨rfl, hb⟩
    have hb2 := (balloc (Below.refl w.heap.size w) (.cells #[.int .i64 s, .int .i64 g, .slice none 0 0, .slice none 0 0, .int .i64 0] 58)).trans (hb.mono (by simp))
    have hB : Blk w2 w.heap.size _ _ := (Blk.new w 58 #[.int .i64 s, .int .i64 g, .slice none 0 0, .slice none 0 0, .int .i64 0]).below hb (by simp)
    go_wp2_with fail
    refine (good_any s g _).mono ?_
    rintro e w3 ⟨rfl, rfl⟩
    go_wp2_with fail
    refine (lens_fresh _ _ s g hB).mono ?_
    rintro e w3 ⟨rfl, rfl⟩
    go_wp2_with fail
    refine (rooms_fresh _ _ s g h1 h2 hB).mono ?_
    rintro e w3 ⟨rfl, hb3⟩
    go_wp2_with fail
    go_ret
    exact ⟨rfl, hb2.trans (hb3.mono hb2.size)⟩
  · have hg' : goodB s g = false := by simpa using hg
    go_enter Try.func3, Try.ntmps3
    go_wp2_with fail
    refine (news_bad s g w hg').mono ?_
    rintro e w1 ⟨rfl, rfl⟩
    go_wp2_with fail
    refine (awake_true _).mono ?_
    rintro e w2 ⟨rfl, hb⟩
    go_wp2_with fail
    refine (good_any s g _).mono ?_
    rintro e w3 ⟨rfl, rfl⟩
    go_wp2_with fail
    go_ret
    exact ⟨rfl, hb⟩
end Go.Proofs.Ytppoakomeaamhaa
