/- slices.Clone of an arena's slots, walked. -/
import Derived.Test.YtppoakomeaamhaaCl0
import Derived.WalkSpells
import Derived.Outline
import Derived.Lib.SliceRun
namespace Go.Proofs.Ytppoakomeaamhaa
open Go.RowKit

theorem own_empty (w : World) : (w.alloc (.cells #[] 65)).ownsRow w.heap.size 65 3 (.slice (some ⟨w.heap.size, 0, none⟩) 0 0) 0 [] :=
  ⟨rfl, .inr ⟨w.heap.size, 0, #[], rfl, Nat.le_refl _, heap_alloc_new w _, Nat.le_refl _, Nat.zero_le _, rfl, rfl⟩⟩

set_option maxHeartbeats 2000000 in
theorem clone_any (w : World) (vs : Value) (sl : List Slot) (hs : w.ownsRow 0 65 3 vs sl.length (sl.flatMap sc)) (hn : sl.length ≤ 1048576) (hu : Nums sl) :
    Calls Try.prog 29 #[vs] w fun e w' => ∃ v', e = .returned v' ∧ w'.ownsRow w.heap.size 65 3 v' sl.length (sl.flatMap sc) ∧ Below w.heap.size w w' := by
  have hones := Lib.hid hu.ones
  have heq := fun (w : World) (a : Option Addr) (n c : Nat) => Lib.run_eql_slice_nil (P := Try.prog) w 59 65 a n c 0 0 Try.underlying59
  obtain ⟨i0, hi0, hz0, hz1, hz2⟩ := info_parts Try.infoSlot
  rcases Nat.eq_zero_or_pos sl.length with h0 | hpos
  · have hsl : sl = [] := List.eq_nil_of_length_eq_zero h0
    subst hsl
    rcases hs.2 with ⟨rfl, _⟩ | ⟨g, cap, cur, rfl, _, hg, hnc, hcm, hcs, htake⟩
    · go_enter Try.func29, Try.ntmps29
      go_wp2
      go_ret
      exact ⟨_, rfl, World.ownsRow_nil _ _ _ _, Below.refl _ _⟩
    · go_enter Try.func29, Try.ntmps29
      go_wp2_with fail
      go_ret
      exact ⟨_, rfl, own_empty w, balloc (Below.refl _ _) _⟩
  · obtain ⟨g, cap, cur, rfl, _, hg, hnc, hcm, hcs, htake⟩ : ∃ g cap cur, vs = .slice (some ⟨g, 0, none⟩) sl.length cap ∧ 0 ≤ g ∧ w.heap[g]? = some (.cells cur 65 (0, 0)) ∧ sl.length ≤ cap ∧ cap ≤ maxLen ∧ cur.size = cap * 3 ∧ cur.toList.take (sl.length * 3) = sl.flatMap sc := by
      rcases hs.2 with ⟨_, h⟩ | h
      · omega
      · exact h
    have HS := Lib.hid hs
    have hl1 := hs.1
    have hsz : g < w.heap.size := (Array.getElem?_eq_some_iff.1 hg).1
    clear hs hg hcs htake
    go_enter Try.func29, Try.ntmps29
    go_wp2_with (at_builtin; refine wpList_append_lies _ rfl (.tmp 5) (.tmp 6) 59 rfl w.heap.size 65 i0 (.agg #[.int .i64 0, .bool false, .int .i64 0]) 3 24 Try.underlying59 hi0 hz0 hz1 hz2 rfl (by decide) (.slice (some ⟨w.heap.size, 0, none⟩) 0 0) 0 [] rfl (own_empty w) ⟨g, 0, none⟩ sl.length cap (sl.flatMap sc) rfl hl1 ?c1 hones.out hpos ?c3 (by omega) (by simp) (w.heap.size + 1) (by simp) ?_)
    case c1 =>
      intro j u hj
      exact (HS.out.alloc _).cells rfl j u hj
    case c3 => unfold maxLen; omega
    intro g1 cap1 w1 hown1 hgrow1 hat1 hlt1
    have hb : Below w.heap.size w w1 := (balloc (Below.refl _ _) _).trans (((Mod.refl (fun k => k = w.heap.size) _).grown hgrow1 (fun k hk _ => by simp [Value.ownBlock] at hk; exact hk.symm)).below (by simp) (fun k hk => by omega))
    have ho : w1.ownsRow w.heap.size 65 3 (.slice (some ⟨g1, 0, none⟩) sl.length cap1) sl.length (sl.flatMap sc) := by simpa using hown1
    have HO := Lib.hid ho
    have HB := Lib.hid hb
    clear ho hb hown1 hgrow1 hat1 hlt1
    go_wp2_with fail
    go_ret
    exact ⟨_, rfl, HO.out, HB.out⟩
end Go.Proofs.Ytppoakomeaamhaa
