/- The arena of strings: Clone, All. (printed by str.py) -/
import Derived.Test.YtppoakomeaamhaaTr1
import Derived.Test.YtppoakomeaamhaaCl3
namespace Go.Proofs.Ytppoakomeaamhaa.Str
open Go.RowKit Go.Shelf
attribute [local go_sem] Oper.semAt_some
set_option linter.unusedVariables false

def Strs (sl : List Slot) : Prop := ∀ (i : Nat) (s : Slot), sl[i]? = some s → ∃ z, s.thing = .string z
def strV : Value → ByteArray
  | .string z => z
  | _ => ⟨#[]⟩
theorem Strs.ones {sl : List Slot} (h : Strs sl) : ∀ u ∈ sl.flatMap sc, u.oneCell' = true := by
  intro u hu
  obtain ⟨s, hs, hu⟩ := List.mem_flatMap.1 hu
  obtain ⟨i, hi⟩ := List.getElem?_of_mem hs
  obtain ⟨z, hz⟩ := h i s hi
  simp [sc, hz] at hu
  rcases hu with rfl | rfl | rfl <;> rfl

theorem own_empty (w : World) : (w.alloc (.cells #[] 81)).ownsRow w.heap.size 81 3 (.slice (some ⟨w.heap.size, 0, none⟩) 0 0) 0 [] :=
  ⟨rfl, .inr ⟨w.heap.size, 0, #[], rfl, Nat.le_refl _, heap_alloc_new w _, Nat.le_refl _, Nat.zero_le _, rfl, rfl⟩⟩

set_option maxHeartbeats 2000000 in
theorem clone_any (w : World) (vs : Value) (sl : List Slot) (hs : w.ownsRow 0 81 3 vs sl.length (sl.flatMap sc)) (hn : sl.length ≤ 1048576) (hu : Strs sl) :
    Calls Try.prog 47 #[vs] w fun e w' => ∃ v', e = .returned v' ∧ w'.ownsRow w.heap.size 81 3 v' sl.length (sl.flatMap sc) ∧ Below w.heap.size w w' := by
  have hones := Lib.hid hu.ones
  have heq := fun (w : World) (a : Option Addr) (n c : Nat) => Lib.run_eql_slice_nil (P := Try.prog) w 56 81 a n c 0 0 Try.underlying56
  obtain ⟨i0, hi0, hz0, hz1, hz2⟩ := info_parts Try.infoSlot
  rcases Nat.eq_zero_or_pos sl.length with h0 | hpos
  · have hsl : sl = [] := List.eq_nil_of_length_eq_zero h0
    subst hsl
    rcases hs.2 with ⟨rfl, _⟩ | ⟨g, cap, cur, rfl, _, hg, hnc, hcm, hcs, htake⟩
    · go_enter Try.func47, Try.ntmps47
      go_wp2
      go_ret
      exact ⟨_, rfl, World.ownsRow_nil _ _ _ _, Below.refl _ _⟩
    · go_enter Try.func47, Try.ntmps47
      go_wp2_with fail
      go_ret
      exact ⟨_, rfl, own_empty w, balloc (Below.refl _ _) _⟩
  · obtain ⟨g, cap, cur, rfl, _, hg, hnc, hcm, hcs, htake⟩ : ∃ g cap cur, vs = .slice (some ⟨g, 0, none⟩) sl.length cap ∧ 0 ≤ g ∧ w.heap[g]? = some (.cells cur 81 (0, 0)) ∧ sl.length ≤ cap ∧ cap ≤ maxLen ∧ cur.size = cap * 3 ∧ cur.toList.take (sl.length * 3) = sl.flatMap sc := by
      rcases hs.2 with ⟨_, h⟩ | h
      · omega
      · exact h
    have HS := Lib.hid hs
    have hl1 := hs.1
    have hsz : g < w.heap.size := (Array.getElem?_eq_some_iff.1 hg).1
    clear hs hg hcs htake
    go_enter Try.func47, Try.ntmps47
    go_wp2_with (at_builtin; refine wpList_append_lies _ rfl (.tmp 5) (.tmp 6) 56 rfl w.heap.size 81 i0 (.agg #[.int .i64 0, .bool false, .string ⟨#[]⟩]) 3 32 Try.underlying56 hi0 hz0 hz1 hz2 rfl (by decide) (.slice (some ⟨w.heap.size, 0, none⟩) 0 0) 0 [] rfl (own_empty w) ⟨g, 0, none⟩ sl.length cap (sl.flatMap sc) rfl hl1 ?c1 hones.out hpos ?c3 (by omega) (by simp) (w.heap.size + 1) (by simp) ?_)
    case c1 =>
      intro j u hj
      exact (HS.out.alloc _).cells rfl j u hj
    case c3 => unfold maxLen; omega
    intro g1 cap1 w1 hown1 hgrow1 hat1 hlt1
    have hb : Below w.heap.size w w1 := (balloc (Below.refl _ _) _).trans (((Mod.refl (fun k => k = w.heap.size) _).grown hgrow1 (fun k hk _ => by simp [Value.ownBlock] at hk; exact hk.symm)).below (by simp) (fun k hk => by omega))
    have ho : w1.ownsRow w.heap.size 81 3 (.slice (some ⟨g1, 0, none⟩) sl.length cap1) sl.length (sl.flatMap sc) := by simpa using hown1
    have HO := Lib.hid ho
    have HB := Lib.hid hb
    clear ho hb hown1 hgrow1 hat1 hlt1
    go_wp2_with fail
    go_ret
    exact ⟨_, rfl, HO.out, HB.out⟩

/-- What a walk tells: the slot, its generation, its thing. -/
abbrev ToldS := Nat × Int × ByteArray

def encT (x : ToldS) : Array Value := #[.agg #[.int .i64 (x.1 : Int), .int .i64 x.2.1], .string x.2.2]

set_option maxRecDepth 100000 in
set_option maxHeartbeats 4000000 in
theorem all1_in (n : Nat) (hn : 1 ≤ n) (l Bs p : Nat) (most gens : Int) (sl : List Slot) (fr : List Int) (live : Int) (vs vf : Value) (J Jx : List ToldS → World → Prop) (W : World)
    (hBs : W.cell? ⟨Bs, 0, none⟩ = some (.pointer (some ⟨p, 0, none⟩))) (hA : ARep W 58 81 p most gens sl fr live vs vf) (hnum : Strs sl) (hsl : sl.length ≤ 1048576)
    (hJ : AbidesFrom W.heap.size J)
    (hY : ∀ pre x W1, J pre W1 → pre.length < sl.length → YieldAt Fence.wide (n - 1) Try.prog l (encT x) W1 fun e W' =>
      (e = .returned (.bool true) ∧ J (pre ++ [x]) W' ∧ KArena p 81 W1 W') ∨ (e = .returned (.bool false) ∧ Jx (pre ++ [x]) W'))
    (h0 : J [] W) :
    CallsIn Fence.wide n Try.prog 46 #[.func (.yield l) #[] #[], .pointer (some ⟨Bs, 0, none⟩)] W fun e W' => (∃ v, e = .returned v) ∧
      ((∃ xs, xs = told strV sl sl.length ∧ J xs W') ∨ (∃ pre, pre <+: told strV sl sl.length ∧ Jx pre W')) := by
  refine callsIn_of_wp Try.func46 rfl trivial ?_ rfl
  simp only [Try.ntmps46, List.size_toArray, List.length_cons, List.length_nil, Nat.reduceAdd, Nat.reduceSub, Array.replicate_succ, Array.replicate_zero, List.push_toArray, List.append_toArray, List.nil_append, List.cons_append]
  have hc2 := hA.blk.cell 2
  simp at hc2
  obtain ⟨a0, cap0, rfl, _⟩ := hA.len
  have hp := hA.blk.lt
  have HA := Lib.hid hA
  have HJ := Lib.hid hJ
  have HY := Lib.hid hY
  have H0 := Lib.hid h0
  clear hA hJ hY h0
  gi_wp2_with fail
  refine ⟨trivial, ?_⟩
  refine (callsIn_wide.2 (clone_any _ _ sl HA.out.slots hsl hnum)).mono ?_
  rintro e w1 ⟨v', rfl, hown, hb⟩
  obtain ⟨a1, cap1, rfl, _⟩ := own_len hown
  have hcop : Copied p 81 w1 (.slice a1 sl.length cap1) sl.length (sl.flatMap sc) := by
    refine ⟨own_mono hown (Nat.zero_le _), ?_⟩
    rintro k hk ⟨n', cap', h2⟩
    rw [hb.cell (p := ⟨p, 2, none⟩) hp, hc2] at h2
    simp at h2
    obtain ⟨rfl, _⟩ := h2
    have h3 := (hown.lt k hk).1
    have h4 := (HA.out.slots.lt k rfl).2
    omega
  have hJ1 := abides_below HJ.out hb H0.out
  have HCOP := Lib.hid hcop
  have HJ1 := Lib.hid hJ1
  have hp1 : p < w1.heap.size := Nat.lt_of_lt_of_le hp hb.size
  have hbs := hb.size
  clear hcop hJ1 hown hb hc2 hBs
  gi_wp2
  gi_loopw [11] (fun i wr => ∃ k : Nat, k ≤ sl.length ∧ i = .int .i64 k ∧ J (told strV sl k) wr ∧ Copied p 81 wr (.slice a1 sl.length cap1) sl.length (sl.flatMap sc) ∧ p < wr.heap.size)
    (fun i _ => sl.length - (intOf i).toNat)
  case atStart => exact ⟨0, Nat.zero_le _, rfl, HJ1.out, HCOP.out, hp1⟩
  case round =>
    obtain ⟨k, hk, rfl, hJs, hcp, hws⟩ := hrel
    have HJS := Lib.hid hJs
    have HCP := Lib.hid hcp
    clear hJs hcp
    by_cases hlt : k < sl.length
    · obtain ⟨s, hs⟩ : ∃ s, sl[k]? = some s := ⟨sl[k], List.getElem?_eq_getElem hlt⟩
      obtain ⟨z, hz⟩ := hnum k s hs
      obtain ⟨x0, x1, x2⟩ := flat_at sl k s hs
      obtain ⟨g1, cap1', e1, hg1, hcc, hcm⟩ := own_at HCP.out.1 (show 0 < sl.length by omega)
      simp only [Value.slice.injEq, true_and] at e1
      obtain ⟨rfl, rfl⟩ := e1
      have d0 := (HCP.out.1.cellAt (k * 3) (by omega)).trans x0
      have d1 := (HCP.out.1.cellAt (k * 3 + 1) (by omega)).trans x1
      have d2 := (HCP.out.1.cellAt (k * 3 + 2) (by omega)).trans x2
      rw [hz] at d2
      unfold maxLen at hcm
      have HS := Lib.hid hs
      have HZ := Lib.hid hz
      clear hs hz x0 x1 x2
      cases hal : s.alive with
      | true =>
        rw [hal] at d1
        have HAL := Lib.hid hal
        clear hal
        have hJb := abides_below HJ.out (balloc (Below.refl wr.heap.size wr) (.cells #[.int .i64 s.gen, .bool true, .string z] 81)) HJS.out
        obtain ⟨fn, tmps, assign, body, hy, hR⟩ := HY.out _ (k, s.gen, z) _ hJb (Nat.lt_of_le_of_lt (told_len _ _ _) hlt)
        unfold encT at hy
        dsimp only at hy
        clear hJb
        gi_wp2
        refine hR.mono ?_
        have HCB := Lib.hid (HCP.out.keep (KArena.below hws (balloc (Below.refl wr.heap.size wr) (.cells #[.int .i64 s.gen, .bool true, .string z] 81))))
        have hz' : strV s.thing = z := by rw [HZ.out]; rfl
        have HZ' := Lib.hid hz'
        clear hR hy hz'
        rintro e W3 (⟨rfl, hJ3, hk3⟩ | ⟨rfl, hJx3⟩)
        · have HJ3 := Lib.hid hJ3
          have HC3 := Lib.hid (HCB.out.keep hk3)
          have hs3 := hk3.size
          simp only [World.size_alloc] at hs3
          clear hJ3 hk3
          gi_wp2
          go_roundw
          case rel => exact ⟨k + 1, by omega, by simp, by rw [told_yes strV HS.out HAL.out, HZ'.out]; exact HJ3.out, HC3.out, by omega⟩
          case measure => simp [intOf]; omega
        · have HJX := Lib.hid hJx3
          clear hJx3
          gi_wp2
          refine bodyPost_ret (results_none rfl _ _ _) rfl ?_
          exact ⟨⟨_, rfl⟩, .inr ⟨_, (by rw [← HZ'.out, ← told_yes strV HS.out HAL.out]; exact told_prefix _ _ _ _ (by omega)), HJX.out⟩⟩
      | false =>
        rw [hal] at d1
        have HAL := Lib.hid hal
        clear hal
        gi_wp2
        refine ⟨fun _ h => (by cases h), ?_⟩
        gi_wp2
        go_roundw
        case rel => exact ⟨k + 1, by omega, by simp, by rw [told_no strV HS.out HAL.out]; exact abides_below HJ.out (balloc (Below.refl _ _) _) HJS.out, HCP.out.keep (KArena.below hws (balloc (Below.refl _ _) _)), by simp; omega⟩
        case measure => simp [intOf]; omega
    · obtain rfl : k = sl.length := by omega
      gi_wp2
      go_end0
      exact ⟨⟨_, rfl⟩, .inl ⟨_, rfl, HJS.out⟩⟩

set_option maxHeartbeats 1000000 in
theorem all_any (p : Nat) (w : World) : Calls Try.prog 45 #[.pointer (some ⟨p, 0, none⟩)] w fun e w' =>
    e = .returned (.func (.func 46) #[] #[.pointer (some ⟨w.heap.size, 0, none⟩)]) ∧ w' = w.alloc (.cells #[.pointer (some ⟨p, 0, none⟩)] 22) := by
  have hmf : ∀ (fn : Fn) (first cap : Array Value) (w : World), (Instr.makeFunc fn first cap).run Try.prog w = .ok (.func fn first cap) w := fun _ _ _ _ => rfl
  go_enter Try.func45, Try.ntmps45
  go_wp2
  go_ret
  exact ⟨rfl, rfl⟩

theorem all_stops (n : Nat) (hn : 1 ≤ n) (Bs p : Nat) (most gens : Int) (sl : List Slot) (fr : List Int) (live : Int) (vs vf : Value) (w : World) (hBs : w.cell? ⟨Bs, 0, none⟩ = some (.pointer (some ⟨p, 0, none⟩)))
    (hA : ARep w 58 81 p most gens sl fr live vs vf) (hnum : Strs sl) (hsl : sl.length ≤ 1048576) :
    SeqStopsK Fence.wide n Try.prog 46 #[.pointer (some ⟨Bs, 0, none⟩)] encT (KArena p 81) (fun xs => xs = told strV sl sl.length) (fun pre => pre <+: told strV sl sl.length) sl.length w :=
  fun l J Jx W hW hJ hJx hY h0 =>
    all1_in n hn l Bs p most gens sl fr live vs vf J Jx W ((hW.cell (p := ⟨Bs, 0, none⟩) (World.block_lt_of_cell? w _ hBs)).trans hBs) (hA.keep hW) hnum hsl hJ hY h0
end Go.Proofs.Ytppoakomeaamhaa.Str
