/- The document's arena, walked: Give. -/
import Derived.Test.YtppoakomeaamhaaRp3
namespace Go.Proofs.Ytppoakomeaamhaa
open Go.RowKit
set_option linter.unusedVariables false

def goneO (o : One) (c : Int) : One := ⟨o.slot, o.gen, o.thing, false, c⟩

/-- A store into the list's row. -/
theorem DRep.setOne {w : World} {d : Nat} {slots gens clock : Int} {all all' : List One} {g cap : Nat} (h : DRep w d slots gens all clock (.slice (some ⟨g, 0, none⟩) all.length cap)) (j : Nat) (u : Value) (hl : all'.length = all.length) (he : all'.flatMap oc = (all.flatMap oc).set j u) :
    DRep (w.setCell ⟨g, j, none⟩ u) d slots gens all' clock (.slice (some ⟨g, 0, none⟩) all.length cap) := by
  have hne : d ≠ g := fun e => h.ne (by simp [Value.ownBlock, e])
  refine ⟨h.blk.far (p := ⟨g, j, none⟩) hne u, ?_⟩
  rw [hl, he]
  exact (h.all.stored j u).1
theorem DRep.setClock {w : World} {d : Nat} {slots gens clock : Int} {all : List One} {va : Value} (h : DRep w d slots gens all clock va) (c : Int) : DRep (w.setCell ⟨d, 3, none⟩ (.int .i64 c)) d slots gens all c va := by
  have hg : w.grownBy (w.setCell ⟨d, 3, none⟩ (.int .i64 c)) (some d) := ⟨rfl, rfl, rfl, by simp, fun k _ hk => heap_setCell_other w ⟨d, 3, none⟩ k _ (fun e => hk (by simp [e]))⟩
  exact ⟨by simpa using h.blk.set_ 3 (.int .i64 c), h.all.kept hg (.inr h.ne)⟩

theorem oc_gone {all : List One} {k : Nat} {o : One} (h : all[k]? = some o) (c : Int) : (all.set k (goneO o c)).flatMap oc = ((all.flatMap oc).set (k * 5 + 3) (.bool false)).set (k * 5 + 4) (.int .i64 c) := by
  have hl := (List.getElem?_eq_some_iff.1 h).1
  obtain ⟨x0, x1, x2, x3, x4⟩ := oc_at all k o h
  rw [oc_set all k _ hl]
  simp only [goneO]
  rw [set_same _ _ _ x0, set_same _ _ _ x1, set_same _ _ _ x2]

theorem oc_mid {all : List One} {k : Nat} {o : One} (h : all[k]? = some o) : (all.set k ⟨o.slot, o.gen, o.thing, false, o.back⟩).flatMap oc = (all.flatMap oc).set (k * 5 + 3) (.bool false) := by
  have hl := (List.getElem?_eq_some_iff.1 h).1
  obtain ⟨x0, x1, x2, x3, x4⟩ := oc_at all k o h
  rw [oc_set all k _ hl]
  simp only []
  rw [set_same _ _ _ x0, set_same _ _ _ x1, set_same _ _ _ x2, List.set_comm _ _ (by omega), set_same _ _ _ x4]

set_option maxHeartbeats 8000000 in
set_option maxRecDepth 100000 in
theorem give_ref (w : World) (d : Nat) (slots gens clock : Int) (all : List One) (va : Value) (h : DRep w d slots gens all clock va) (hl : all.length ≤ 1000000000000) (hc0 : 0 ≤ clock) (hc1 : clock ≤ 1000000000000) (s gn : Int) :
    Calls Try.prog 32 #[.pointer (some ⟨d, 0, none⟩), .int .i64 s, .int .i64 gn] w fun e w' => ∃ r, IsFind all s gn r ∧
      ((r < 0 ∧ e = .returned (.int .i64 32) ∧ Below w.heap.size w w') ∨
      (∃ (k : Nat) (o : One), r = k ∧ all[k]? = some o ∧ e = .returned (.int .i64 0) ∧ DNow w w' d slots gens (all.set k (goneO o (clock + 1))) (clock + 1) va va)) := by
  obtain ⟨a, cap, rfl, hm⟩ := own_len h.all
  have x2 := h.blk.cell 2
  have x3 := h.blk.cell 3
  have y3 := h.blk.frozen 3
  simp at x2 x3
  have hd := h.blk.lt
  have hne := h.ne
  have H := Lib.hid h
  clear h hm
  go_enter Try.func32, Try.ntmps32
  go_wp2_with fail
  refine (find_ref w d slots gens clock all _ H.out hl s gn).mono ?_
  rintro e w1 ⟨⟨r, rfl, hf⟩, rfl⟩
  have HF := Lib.hid hf
  clear hf
  rcases HF.out with ⟨hr, _⟩ | ⟨k, o, hr, ho, _, _⟩
  · subst hr
    go_wp2_with fail
    go_ret
    exact ⟨-1, HF.out, .inl ⟨by omega, rfl, Below.refl _ _⟩⟩
  · subst hr
    have hlt : k < all.length := (List.getElem?_eq_some_iff.1 ho).1
    obtain ⟨g, o', rfl, hg, hcap, ho'⟩ := H.out.entry hlt
    rw [ho] at ho'
    simp at ho'
    subst ho'
    have hgd : g ≠ d := fun e => hne (by simp [Value.ownBlock, e])
    have hdg : d ≠ g := fun e => hgd e.symm
    obtain ⟨d0, d1, d2, d3, d4⟩ := H.out.at ho
    have f3 := H.out.all.frozenAt (k * 5 + 3)
    have f4 := H.out.all.frozenAt (k * 5 + 4)
    have HO := Lib.hid ho
    have hx : DRep ((((w1.setCell ⟨d, 3, none⟩ (.int .i64 (clock + 1)))).setCell ⟨g, k * 5 + 3, none⟩ (.bool false)).setCell ⟨g, k * 5 + 4, none⟩ (.int .i64 (clock + 1))) d slots gens (all.set k (goneO o (clock + 1))) (clock + 1) (.slice (some ⟨g, 0, none⟩) all.length cap) := by
      have h1 := (H.out.setClock (clock + 1)).setOne (k * 5 + 3) (.bool false) (all' := all.set k ⟨o.slot, o.gen, o.thing, false, o.back⟩) (by simp) (oc_mid ho)
      have hlen : (all.set k ⟨o.slot, o.gen, o.thing, false, o.back⟩).length = all.length := by simp
      rw [← hlen] at h1
      have h2 := h1.setOne (k * 5 + 4) (.int .i64 (clock + 1)) (all' := all.set k (goneO o (clock + 1))) (by simp) (by rw [oc_gone ho, oc_mid ho])
      rwa [hlen] at h2
    have HX := Lib.hid hx
    have hkn : decide ((k : Int) < 0) = false := by simp
    clear hx ho d0 d1 d2
    go_wp2_with fail
    go_region
    all_goals
      go_wp2_with fail
      go_ret
      have hm := (((Mod.refl (dfoot d (.slice (some ⟨g, 0, none⟩) all.length cap)) w1).setCell (p := ⟨d, 3, none⟩) (fun _ => .inl rfl) (.int .i64 (clock + 1))).setCell (p := ⟨g, k * 5 + 3, none⟩) (fun _ => .inr rfl) (.bool false)).setCell (p := ⟨g, k * 5 + 4, none⟩) (fun _ => .inr rfl) (.int .i64 (clock + 1))
      exact ⟨k, HF.out, .inr ⟨k, o, rfl, HO.out, rfl, ⟨HX.out.keep (bdrew (Below.refl _ _)), hm.drew, fun k hk _ => hk⟩⟩⟩
end Go.Proofs.Ytppoakomeaamhaa
