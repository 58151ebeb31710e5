/- osierlaw03.twin, walked: any. -/
import Derived.Test.YtppoakomeaamhaaTm2
import Derived.Test.YtppoakomeaamhaaTm3
namespace Go.Proofs.Ytppoakomeaamhaa
open Go.RowKit
set_option linter.unusedVariables false

theorem twin_any (w : World) (F : Nat → Prop) (W : World) (p d : Nat) (most gens : Int) (n : Nat) (c : Int) (h : TStepped w F p d most gens n c W) (hn : n ≤ 300000) (hc : c ≤ 300000000000) (o0 o1 o2 o3 : Int) (hv0 : -9223372036854775808 ≤ o3) (hv1 : o3 ≤ 9223372036854775807) :
    Calls Try.prog 26 #[.pointer (some ⟨p, 0, none⟩), .pointer (some ⟨d, 0, none⟩), .agg #[.int .i64 o0, .int .i64 o1, .int .i64 o2, .int .i64 o3]] W fun e w' => e = .returned (.bool true) ∧ TStepped w F p d most gens (n + 1) (c + 1048576) w' := by
  obtain ⟨sl, fr, vs, vf, all, clock, va, h1, h2, h3, h4⟩ := h
  have hw : ∀ (e : Ending) (w' : World), (e = .returned (.bool true) ∧ TStepped w F p d most gens (all.length + 1) (clock + 1048576) w') → (e = .returned (.bool true) ∧ TStepped w F p d most gens (n + 1) (c + 1048576) w') := fun e w' ⟨a, b⟩ => ⟨a, b.weaken (by omega) (by omega)⟩
  by_cases e1 : o0 = 1
  · subst e1; exact (twin_take w F W p d most gens sl fr _ vs vf all clock va h1 h2 (by omega) (by omega) o1 o2 o3 hv0 hv1).mono hw
  by_cases e2 : o0 = 2
  · subst e2; exact (twin_give w F W p d most gens sl fr _ vs vf all clock va h1 h2 (by omega) (by omega) o1 o2 o3).mono hw
  by_cases e3 : o0 = 3
  · subst e3; exact (twin_at w F W p d most gens sl fr _ vs vf all clock va h1 h2 (by omega) (by omega) o1 o2 o3).mono hw
  by_cases e6 : o0 = 6
  · subst e6; exact (twin_clear w F W p d most gens sl fr _ vs vf all clock va h1 h2 (by omega) (by omega) o1 o2 o3).mono hw
  exact (twin_other w F W p d most gens sl fr _ vs vf all clock va h1 h2 (by omega) (by omega) o0 o1 o2 o3 ⟨e1, e2, e3, e6⟩).mono hw
end Go.Proofs.Ytppoakomeaamhaa
