/- osierlaw03.twin, walked: Give. -/
import Derived.Test.YtppoakomeaamhaaTm1
namespace Go.Proofs.Ytppoakomeaamhaa
open Go.RowKit
set_option linter.unusedVariables false

set_option maxHeartbeats 8000000 in
set_option maxRecDepth 100000 in
theorem twin_give (w : World) (F : Nat → Prop) (W : World) (p d : Nat) (most gens : Int) (sl : List Slot) (fr : List Int) (live : Int) (vs vf : Value) (all : List One) (clock : Int) (va : Value) (h : TMem w F W p d most gens sl fr live vs vf all clock va) (hs : Sim sl fr all clock) (hl : all.length ≤ 300000) (hc : clock ≤ 300000000000) (o1 o2 o3 : Int) :
    Calls Try.prog 26 #[.pointer (some ⟨p, 0, none⟩), .pointer (some ⟨d, 0, none⟩), .agg #[.int .i64 2, .int .i64 o1, .int .i64 o2, .int .i64 o3]] W fun e w' => e = .returned (.bool true) ∧ TStepped w F p d most gens (all.length + 1) (clock + 1048576) w' := by
  have hck := hs.clk
  have hm1 := h.inv.m1
  have hm2 := h.inv.m2
  have H := Lib.hid h
  have HS := Lib.hid hs
  clear h hs
  go_enter Try.func26, Try.ntmps26
  go_wp2_with fail
  have HB := Lib.hid (H.out.keep (balloc (balloc (Below.refl _ _) (.cells #[.int .i64 2, .int .i64 o1, .int .i64 o2, .int .i64 o3] 36)) (.cells #[.int .i64 o1, .int .i64 o2] 40)))
  have hpm := HB.out.keep (bdrew (Below.refl _ _))
  have n5 : ∀ k, (foot p vs vf k ∨ dfoot d va k) → k ≠ W.heap.size ∧ k ≠ W.heap.size + 1 := fun k hk => by
    have h1 : k < W.heap.size := by
      rcases hk with hk | hk
      · exact H.out.rep.footlt hk
      · exact H.out.drep.footlt hk
    omega
  have HN5 := Lib.hid n5
  clear n5
  go_region_held3 (fun w' => w'.cell? ⟨W.heap.size, 1, none⟩ = some (.int .i64 o1) ∧ w'.cell? ⟨W.heap.size, 2, none⟩ = some (.int .i64 o2) ∧ w'.cell? ⟨W.heap.size + 1, 0, none⟩ = some (.int .i64 o1) ∧ w'.cell? ⟨W.heap.size + 1, 1, none⟩ = some (.int .i64 o2))
    (first | go_keep | (exact keep4 hmodA (fun k hk => HN5.out k (.inl hk)) (by assumption)) | (exact keep4 hmodD (fun k hk => HN5.out k (.inr hk)) (by assumption)))
    (first
      | (go_at_call 39; refine (give_tm w F _ p d most gens sl fr _ vs vf _ _ va (by assumption) o1 o2).mono ?_; rintro e w6 ⟨r1, sl', fr', vf', rfl, hA, hpmA, hmodA⟩)
      | (go_at_call 32; refine (giver_tm w F _ p d most gens _ _ _ vs _ all clock va (by assumption) hl hck hc o1 o2).mono ?_; rintro e w6 ⟨r2, all', clock', rfl, hD, hpmD, hmodD⟩))
  all_goals
    obtain ⟨hr, hsim, hl1, hc1⟩ := give_join HS.out HB.out.inv hA.out hD.out
    have hfin : TMem w F w6 p d most gens sl' fr' (liveN sl') vs vf' all' clock' va := by assumption
    have HFIN := Lib.hid hfin
    have HSIM := Lib.hid hsim
    have hb : (r1 == r2) = true := beq_iff_eq.2 hr
    rw [hb]
    clear hA hD hpmA hpmD hmodA hmodD hfin hsim hr hb hpm
    go_wp2_with fail
    go_ret
    exact ⟨rfl, HFIN.out.stepped HSIM.out hl1 hc1⟩
end Go.Proofs.Ytppoakomeaamhaa
