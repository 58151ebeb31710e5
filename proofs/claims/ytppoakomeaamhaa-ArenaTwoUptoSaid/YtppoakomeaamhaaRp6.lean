/- The document's arena, walked: Clear. -/
import Derived.Test.YtppoakomeaamhaaRp5
import Derived.Deep.RegionWith
namespace Go.Proofs.Ytppoakomeaamhaa
open Go.RowKit
set_option linter.unusedVariables false

/-- Give, as a step of the document's list and clock. -/
def GiveR (S : List One × Int) (s g : Int) (S' : List One × Int) : Prop :=
  ∃ r, IsFind S.1 s g r ∧ ((r < 0 ∧ S' = S) ∨ ∃ (k : Nat) (o : One), r = k ∧ S.1[k]? = some o ∧ S' = (S.1.set k (goneO o (S.2 + 1)), S.2 + 1))
inductive GivesR (S0 : List One × Int) : List One → List One × Int → Prop
  | nil : GivesR S0 [] S0
  | snoc {l : List One} {o : One} {S S' : List One × Int} : GivesR S0 l S → GiveR S o.slot o.gen S' → GivesR S0 (l ++ [o]) S'
theorem GiveR.len {S S' : List One × Int} {s g : Int} (h : GiveR S s g S') : S'.1.length = S.1.length ∧ S.2 ≤ S'.2 ∧ S'.2 ≤ S.2 + 1 := by
  obtain ⟨r, _, ⟨_, rfl⟩ | ⟨k, o, _, _, rfl⟩⟩ := h
  · exact ⟨rfl, by omega, by omega⟩
  · exact ⟨by simp, by simp; omega, by simp⟩
theorem GivesR.len {S0 S : List One × Int} {l : List One} (h : GivesR S0 l S) : S.1.length = S0.1.length ∧ S0.2 ≤ S.2 ∧ S.2 ≤ S0.2 + l.length := by
  induction h with
  | nil => simp
  | snoc h1 h2 ih =>
    have := h2.len
    simp
    omega
theorem LiveR.len {all : List One} {k : Nat} {x : List One} (h : LiveR all k x) : x.length ≤ k := by
  induction h with
  | zero => simp
  | dead _ _ _ ih => omega
  | put _ _ _ hi ih =>
    obtain ⟨l1, l2, rfl, rfl, _⟩ := hi
    simp at ih ⊢
    omega

/-- What Give does, told by GiveR. -/
theorem give_refR (w : World) (d : Nat) (slots gens : Int) (S : List One × Int) (va : Value) (h : DRep w d slots gens S.1 S.2 va) (hl : S.1.length ≤ 1000000000000) (hc0 : 0 ≤ S.2) (hc1 : S.2 ≤ 1000000000000) (s gn : Int) :
    Calls Try.prog 32 #[.pointer (some ⟨d, 0, none⟩), .int .i64 s, .int .i64 gn] w fun e w' => ∃ r S', e = .returned (.int .i64 r) ∧ (r = 32 ∨ r = 0) ∧ (r = 32 ↔ ∀ (j : Nat) (o : One), S.1[j]? = some o → ¬ isRef o s gn) ∧ GiveR S s gn S' ∧ DNow w w' d slots gens S'.1 S'.2 va va := by
  refine (give_ref w d slots gens S.2 S.1 va h hl hc0 hc1 s gn).mono ?_
  rintro e w' ⟨r, hf, ⟨hr, rfl, hb⟩ | ⟨k, o, rfl, ho, rfl, hn⟩⟩
  · refine ⟨32, S, rfl, .inl rfl, ⟨fun _ => ?_, fun _ => rfl⟩, ⟨r, hf, .inl ⟨hr, rfl⟩⟩, h.keep hb, Mod.ofBelow hb, fun k hk _ => hk⟩
    rcases hf with ⟨_, h2⟩ | ⟨k, o, h2, _⟩
    · exact h2
    · omega
  · refine ⟨0, _, rfl, .inr rfl, ⟨fun h => by omega, fun h2 => ?_⟩, ⟨k, hf, .inr ⟨k, o, rfl, ho, rfl⟩⟩, hn⟩
    rcases hf with ⟨h3, _⟩ | ⟨k', o', h3, h4, h5, _⟩
    · omega
    · exact absurd h5 (h2 k' o' h4)

set_option maxHeartbeats 8000000 in
set_option maxRecDepth 100000 in
theorem clear_ref (w : World) (d : Nat) (slots gens clock : Int) (all : List One) (va : Value) (h : DRep w d slots gens all clock va) (hl : all.length ≤ 400000000000) (hc0 : 0 ≤ clock) (hc1 : clock ≤ 400000000000) :
    Calls Try.prog 34 #[.pointer (some ⟨d, 0, none⟩)] w fun e w' => e = .returned (.tuple #[]) ∧ ∃ x S, LiveR all all.length x ∧ GivesR (all, clock) x S ∧ DNow w w' d slots gens S.1 S.2 va va := by
  have H := Lib.hid h
  have hd := h.blk.lt
  clear h
  go_enter Try.func34, Try.ntmps34
  go_wp2_with fail
  refine (live_ref w d slots gens clock all va H.out (by omega)).mono ?_
  rintro e w1 ⟨v', x, rfl, hlr, hown, hb⟩
  obtain ⟨ax, capx, rfl, hlx⟩ := own_len hown
  have hxl := hlr.len
  have HL := Lib.hid hlr
  have HX := Lib.hid hown
  have HB := Lib.hid hb
  have hD1 := Lib.hid (H.out.keep hb)
  unfold maxLen at hlx
  clear hlr hown hb
  go_wp2_with fail
  go_loopw [3] (fun ix wr => ∃ (k : Nat) (S : List One × Int), k ≤ x.length ∧ ix = .int .i64 k ∧ Hid (GivesR (all, clock) (x.take k) S) ∧ DRep wr d slots gens S.1 S.2 va ∧ Mod (dfoot d va) w wr ∧ wr.ownsRow w.heap.size 72 5 (.slice ax x.length capx) x.length (x.flatMap oc)) (fun ix _ => x.length - (intOf ix).toNat)
  case atStart => exact ⟨0, (all, clock), Nat.zero_le _, rfl, Lib.hid .nil, hD1.out, Mod.ofBelow HB.out, HX.out⟩
  case round =>
    obtain ⟨k, S, hk, rfl, hgv, hrep, hmod, hrow⟩ := hrel
    have hlen := hgv.out.len
    simp only [List.length_take] at hlen
    have HR := Lib.hid hrep
    have HM := Lib.hid hmod
    have HO := Lib.hid hrow
    clear hrep hmod hrow
    by_cases hlt : k < x.length
    · obtain ⟨g, cap', e1, hg, hcc, _⟩ := own_at HO.out (show 0 < x.length by omega)
      simp only [Value.slice.injEq, true_and] at e1
      obtain ⟨rfl, rfl⟩ := e1
      have ho : x[k]? = some x[k] := List.getElem?_eq_getElem hlt
      generalize x[k] = o at ho
      obtain ⟨z0, z1, _, _, _⟩ := oc_at x k o ho
      have d0 := (HO.out.cellAt (k * 5) (by omega)).trans z0
      have d1 := (HO.out.cellAt (k * 5 + 1) (by omega)).trans z1
      have HOO := Lib.hid ho
      clear z0 z1 ho
      go_wp2_with fail
      go_region_with (go_at_call 32; refine (give_refR _ d slots gens S va (HR.out.keep (bdrew (Below.refl _ _))) (by omega) (by omega) (by omega) o.slot o.gen).mono ?_; rintro e w3 ⟨r, S', rfl, _, _, hgr, hnow⟩)
      all_goals
        have HG' : Hid (GivesR (all, clock) (x.take (k + 1)) S') := Lib.hid (by rw [List.take_add_one, HOO.out]; exact .snoc hgv.out hgr)
        have HN := Lib.hid hnow
        clear hgr hnow
        go_wp2_with fail
        go_roundw
        case rel => exact ⟨k + 1, S', by omega, by go_num, HG', HN.out.rep, HM.out.drew.trans HN.out.mod (fun i _ hf => hf), HN.out.mod.ownsRow (show wr.drew.ownsRow _ _ _ _ _ _ from HO.out) (fun j hj hf => by
          have h1 := HO.out.lt j hj
          have h2 := H.out.footlt hf
          omega)⟩
        case measure => simp only [intOf]; omega
    · have hke : k = x.length := by omega
      subst hke
      have HG : Hid (GivesR (all, clock) x S) := Lib.hid (by have := hgv.out; rwa [List.take_length] at this)
      go_wp2_with fail
      go_end0
      exact ⟨rfl, x, S, HL.out, HG.out, HR.out, HM.out, fun k hk _ => hk⟩
end Go.Proofs.Ytppoakomeaamhaa
