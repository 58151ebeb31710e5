/- For ChangeMemory: changes that may be written over. -/
import Derived.Test.YtgjknekoehfdfaaGreatDoorSy
import Derived.Test.YtgjknekoehfdfaaGreatDoorCh0Z
namespace Go.Proofs.YtgjknekoehfdfaaGreatDoor
open Go.RowKit
set_option linter.unusedVariables false

/-- A slice of changes that may be written over, and their rows. -/
def CgW (F : Nat → Prop) (w : World) (a : Option Addr) (n : Nat) (T : List (Option Addr × Nat × Nat)) : Prop :=
  T.length = n ∧ (n = 0 ∨ ∃ g, a = some ⟨g, 0, none⟩ ∧ F g ∧ g < w.heap.size ∧ w.there g 0 (n * 3) ∧ ∀ (i : Nat) (t : Option Addr) (k c : Nat), T[i]? = some (t, k, c) →
    w.cell? ⟨g, i * 3 + 2, none⟩ = some (.slice t k c) ∧ k ≤ 4398046511104 ∧ Wrt (fun q => F q ∧ q ≠ g) w 3 t k)
theorem CgW.setRel {F : Nat → Prop} {w : World} {g n : Nat} {T : List (Option Addr × Nat × Nat)} (h : CgW F w (some ⟨g, 0, none⟩) n T) (i : Nat) (v : Value) : CgW F (w.setCells g (i * 3 + 1) [v]) (some ⟨g, 0, none⟩) n T := by
  refine ⟨h.1, h.2.imp id ?_⟩
  rintro ⟨g', hg, hF, hl, ht, he⟩
  injection hg with hg
  injection hg with hg _ _
  subst hg
  refine ⟨g, rfl, hF, Nat.lt_of_lt_of_le hl (size_setCells _ _ _ _), World.there_setCells ht _ _ _, fun j t k c hj => ?_⟩
  obtain ⟨h1, h2, h3⟩ := he j t k c hj
  refine ⟨?_, h2, h3.set _ _ _⟩
  rw [World.cell?_setCells_out g [v] (i * 3 + 1) w ⟨g, j * 3 + 2, none⟩ (fun _ _ => by
    simp only [List.length_cons, List.length_nil]
    omega)]
  exact h1
theorem CgW.setOther {F : Nat → Prop} {w : World} {a : Option Addr} {n : Nat} {T : List (Option Addr × Nat × Nat)} (h : CgW F w a n T) {b : Nat} (hb : a ≠ some ⟨b, 0, none⟩) (o : Nat) (vs : List Value) : CgW F (w.setCells b o vs) a n T := by
  refine ⟨h.1, h.2.imp id ?_⟩
  rintro ⟨g, rfl, hF, hl, ht, he⟩
  refine ⟨g, rfl, hF, Nat.lt_of_lt_of_le hl (size_setCells _ _ _ _), World.there_setCells ht _ _ _, fun j t k c hj => ?_⟩
  obtain ⟨h1, h2, h3⟩ := he j t k c hj
  refine ⟨?_, h2, h3.set _ _ _⟩
  have hm : Mod (fun q => q = b) w (w.setCells b o vs) := mod_setCellsQ (F := fun q => q = b) rfl _ _ _
  have hblk := hm.block g hl (fun e => hb (by rw [e]))
  rw [World.cell?_of_block hblk]
  exact h1
theorem CgW.mod {F G : Nat → Prop} {w w' : World} {a : Option Addr} {n : Nat} {T : List (Option Addr × Nat × Nat)} (h : CgW F w a n T) (hm : Mod G w w') (hn : ∀ g, F g → ¬ G g) : CgW F w' a n T := by
  refine ⟨h.1, h.2.imp id ?_⟩
  rintro ⟨g, rfl, hF, hl, ht, he⟩
  have hblk := hm.block g hl (hn g hF)
  refine ⟨g, rfl, hF, Nat.lt_of_lt_of_le hl hm.size, fun j hj => ?_, fun j t k c hj => ?_⟩
  · obtain ⟨h1, h2⟩ := ht j hj
    refine ⟨?_, ?_⟩
    · rw [World.cell?_of_block hblk]; exact h1
    · rw [World.frozen?_of_block hblk]; exact h2
  · obtain ⟨h1, h2, h3⟩ := he j t k c hj
    refine ⟨?_, h2, h3.mod hm (fun g hg => hn g hg.1)⟩
    rw [World.cell?_of_block hblk]
    exact h1
def sOfC : List Value → Option Addr × Nat × Nat
  | [_, _, .slice t k c] => (t, k, c)
  | _ => (none, 0, 0)
theorem CgW.ofOwn {F : Nat → Prop} {w : World} {B : Nat} {a : Option Addr} {n c : Nat} {l : List Chg} (h : ChgsOwn B w (.slice a n c) l) (hn : l.length = n) (hs : n ≤ 2932031007402) (hz : ∀ x ∈ l, x.row.length ≤ 4398046511104) (hF : ∀ g, B ≤ g → g < w.heap.size → F g) : ∃ T, CgW F w a n T := by
  obtain ⟨rows, h1, h2⟩ := h
  have hl := h2.length
  rw [hn] at h1
  refine ⟨rows.map sOfC, by rw [List.length_map]; omega, ?_⟩
  rcases Nat.eq_zero_or_pos n with h0 | h0
  · exact .inl h0
  · have hrl : ∀ x ∈ rows, x.length = 3 := by
      intro x hx
      obtain ⟨_, _, tv, rfl, _⟩ := all2_mem h2 x hx
      rfl
    have hrow : RowAt w (.slice a n c) 3 rows := RowAt.ofOwn h1 (by omega) hrl (by omega)
    have hfl : rows.flatten.length = n * 3 := by rw [flatten_len hrl, hl, hn]
    rcases h1.2 with ⟨h3, _⟩ | ⟨g, cap, cur, hv, hb, hg, _⟩
    · simp only [Value.slice.injEq] at h3
      omega
    · simp only [Value.slice.injEq] at hv
      obtain ⟨rfl, _, rfl⟩ := hv
      have hgl : g < w.heap.size := (Array.getElem?_eq_some_iff.1 hg).1
      refine .inr ⟨g, rfl, hF g hb hgl, hgl, there_ofOwn h1 hfl, fun i t k c' hT => ?_⟩
      rw [List.getElem?_map] at hT
      obtain ⟨x, hx, hxT⟩ := Option.map_eq_some_iff.1 hT
      have hi := (List.getElem?_eq_some_iff.1 hx).1
      obtain ⟨at_, hat⟩ : ∃ y, l[i]? = some y := ⟨l[i]'(by omega), List.getElem?_eq_getElem (by omega)⟩
      obtain ⟨b', hb', tv, rfl, ho⟩ := h2.get hat
      rw [hx] at hb'
      simp only [Option.some.injEq] at hb'
      subst hb'
      obtain ⟨t', c'', rfl⟩ := own_sl ho
      simp only [sOfC, Prod.mk.injEq] at hxT
      obtain ⟨rfl, rfl, rfl⟩ := hxT
      obtain ⟨b, off, cap', hv, _, _, _, hc⟩ := hrow.get hx
      simp only [Value.slice.injEq, Option.some.injEq, Addr.mk.injEq, and_true] at hv
      obtain ⟨⟨rfl, rfl⟩, _, _⟩ := hv
      have h5 := hc 2 _ rfl
      rw [Nat.zero_add] at h5
      refine ⟨h5, hz _ (List.mem_of_getElem? hat), Wrt.ofOwn ho ho.1 ?_⟩
      rintro q rfl hq hBq
      rcases ho.2 with ⟨h6, _⟩ | ⟨g', cap2, cur2, hv2, _, hg2, _⟩
      · simp at h6
      · simp only [Value.slice.injEq, Option.some.injEq, Addr.mk.injEq, and_true, true_and] at hv2
        obtain ⟨rfl, _⟩ := hv2
        refine ⟨hF _ hBq hq, ?_⟩
        rintro rfl
        rw [hg] at hg2
        simp at hg2
/-- One change of a slice that may be written over. -/
theorem CgW.at_ {F : Nat → Prop} {w : World} {a : Option Addr} {n i : Nat} {T : List (Option Addr × Nat × Nat)} (h : CgW F w a n T) (hi : i < n) : ∃ g t k c u, a = some ⟨g, 0, none⟩ ∧ F g ∧ g < w.heap.size ∧ T[i]? = some (t, k, c) ∧ w.cell? ⟨g, i * 3 + 1, none⟩ = some u ∧ w.frozen? ⟨g, i * 3 + 1, none⟩ = false ∧
    w.cell? ⟨g, i * 3 + 2, none⟩ = some (.slice t k c) ∧ k ≤ 4398046511104 ∧ Wrt (fun q => F q ∧ q ≠ g) w 3 t k := by
  obtain ⟨hl, h | ⟨g, rfl, hF, hg, ht, he⟩⟩ := h
  · omega
  · obtain ⟨⟨t, k, c⟩, hT⟩ : ∃ x, T[i]? = some x := ⟨T[i]'(by omega), List.getElem?_eq_getElem (by omega)⟩
    obtain ⟨h1, h2⟩ := ht (i * 3 + 1) (by omega)
    rw [Nat.zero_add] at h1 h2
    obtain ⟨u, hu⟩ := Option.isSome_iff_exists.1 h1
    obtain ⟨h3, h4, h5⟩ := he i t k c hT
    exact ⟨g, t, k, c, u, rfl, hF, hg, hT, hu, h2, h3, h4, h5⟩
end Go.Proofs.YtgjknekoehfdfaaGreatDoor
