/- osierlaw07.LexMemory, walked, given the document's Tokens. -/
import Derived.Test.YthfibaajmbhdkaaDoorLw5
import Derived.Deep.MidRow
namespace Go.Proofs.YthfibaajmbhdkaaDoor
open Go.RowKit
set_option linter.unusedVariables false

theorem mod_setCells (b : Nat) : ∀ (vs : List Value) (o : Nat) (w : World), Mod (fun k => k = b) w (w.setCells b o vs)
  | [], _, w => Mod.refl _ w
  | v :: r, o, w => by
    rw [World.setCells]
    exact ((Mod.refl (fun k => k = b) w).setCell (p := ⟨b, o, none⟩) (fun _ => rfl) v).trans (mod_setCells b r (o + 1) _) (fun _ _ h => h)

def markTok (i : Nat) : Tok := ⟨77, [109, 97, 114, 107], 0, 0, [], -(i : Int) - 1⟩

theorem tcells_len (ts : List Tok) : (tcells ts).length = ts.length * 6 := by
  induction ts with
  | nil => rfl
  | cons t ts ih =>
    have e : tcells (t :: ts) = t.cells ++ tcells ts := by simp [tcells]
    rw [e, List.length_append, ih, List.length_cons]
    have : t.cells.length = 6 := rfl
    omega

/-- The told row, written over up to i. -/
def Over (a : Option Addr) (n i : Nat) (w : World) : Prop := ∀ g, a = some ⟨g, 0, none⟩ → w.there g 0 (n * 6) ∧ ∀ j, j < i → w.cell? ⟨g, j * 6 + 5, none⟩ = some (.int .i64 (-(j : Int) - 1))

theorem over_start {w : World} {base : Nat} {e : TypeId} {a : Option Addr} {n cap : Nat} {xs : List Value} (h : w.ownsRow base e 6 (.slice a n cap) n xs) (hx : xs.length = n * 6) : Over a n 0 w := by
  rintro g rfl
  refine ⟨fun j hj => ?_, fun j hj => absurd hj (Nat.not_lt_zero _)⟩
  have h1 := h.cellAt j (by omega)
  have h2 := h.frozenAt j
  rw [Nat.zero_add]
  refine ⟨?_, h2⟩
  rw [h1, List.getElem?_eq_getElem (by omega)]
  rfl
theorem over_step {w : World} {g n i : Nat} (h : Over (some ⟨g, 0, none⟩) n i w) (hi : i < n) : Over (some ⟨g, 0, none⟩) n (i + 1) (w.setCells g (i * 6) (markTok i).cells) := by
  intro g' hg
  injection hg with hg
  injection hg with hg _ _
  subst hg
  obtain ⟨h1, h2⟩ := h g rfl
  refine ⟨World.there_setCells h1 _ _ _, fun j hj => ?_⟩
  by_cases hji : j = i
  · subst hji
    have hs : ∀ k, k < (markTok j).cells.length → (w.cell? ⟨g, j * 6 + k, none⟩).isSome = true := fun k hk => by
      have hk6 : k < 6 := hk
      have := (h1 (j * 6 + k) (by omega)).1
      rw [Nat.zero_add] at this
      exact this
    have := World.cell?_setCells_in g (markTok j).cells (j * 6) w hs 5 (show 5 < 6 by decide)
    rw [this]
    rfl
  · rw [World.cell?_setCells_out g (markTok i).cells (i * 6) w ⟨g, j * 6 + 5, none⟩ (fun _ _ => by left; show j * 6 + 5 < i * 6; omega)]
    exact h2 j (by omega)
theorem Over.mod {a : Option Addr} {n i B : Nat} {w w' : World} (h : Over a n i w) (hb : Below B w w') (ha : ∀ g, a = some ⟨g, 0, none⟩ → g < B) : Over a n i w' := by
  rintro g hg
  obtain ⟨h1, h2⟩ := h g hg
  have hgB := ha g hg
  refine ⟨fun j hj => ?_, fun j hj => ?_⟩
  · obtain ⟨x, y⟩ := h1 j hj
    refine ⟨?_, ?_⟩
    · rw [World.cell?_of_block (hb.block g hgB)]; exact x
    · rw [World.frozen?_of_block (hb.block g hgB)]; exact y
  · rw [World.cell?_of_block (hb.block g hgB)]; exact h2 j hj

set_option maxHeartbeats 16000000 in
set_option maxRecDepth 100000 in
theorem memory_law_of (HRT : RefTok) (s : ByteArray) (w : World) (hs : s.size ≤ 140737488351232) (hg : Glob w) :
    Calls Tryd.prog 8 #[.string s] w fun e w' => e = .returned (.bool true) ∧ Below w.heap.size w w' := by
  have hT := fun W => tokens_any s W (by omega)
  have hU := fun W => HRT s W (by omega)
  unfold TokPost at hT hU
  have hct := lexR_count s.data.toList
  rw [show s.data.toList.length = s.size from rfl] at hct
  have HG := Lib.hid hg
  have hct2 : (lexR s.data.toList).ts.length ≤ 16385 := by
    by_cases h : 16384 < s.data.toList.length
    · rw [lexR_long h]; simp
    · have := lexR_count s.data.toList; omega
  generalize lexR s.data.toList = R at *
  obtain ⟨ts, p, e0⟩ := R
  simp only at hT hU hct2
  have hct3 : ts.length ≤ 140737488355328 := by omega
  have HC3 := Lib.hid hct3
  have HT := Lib.hid hT
  have HU := Lib.hid hU
  clear hT hU hg HRT hct hct3
  go_enter Tryd.func8, Tryd.ntmps8
  go_wp2_with fail
  refine (HT.out _ HG.out).mono ?_
  rintro e w1 ⟨a, cap, rfl, hown1, hb1⟩
  have HB1 := Lib.hid hb1
  have HO1 := Lib.hid hown1
  have HA := Lib.hid (show ∀ g, a = some ⟨g, 0, none⟩ → w.heap.size ≤ g ∧ g < w1.heap.size from fun g hg => hown1.lt g (by rw [hg]; rfl))
  clear hb1 hown1
  go_wp2_with fail
  refine (HT.out _ (HG.out.below HB1.out)).mono ?_
  rintro e w2 ⟨b, cap2, rfl, hown2, hb2⟩
  have HB2 := Lib.hid (HB1.out.trans (hb2.mono HB1.out.size))
  have HO1b := Lib.hid ((Mod.ofBelow (F := fun _ => False) hb2).ownsRow HO1.out (fun _ _ f => f))
  have HO2 := Lib.hid hown2
  have HZ2 := Lib.hid hb2.size
  clear hb2 hown2
  go_wp2_with fail
  refine (HU.out _ (HG.out.below HB2.out)).mono ?_
  rintro e w3 ⟨c, cap3, rfl, hown3, hb3⟩
  have HB3 := Lib.hid (HB2.out.trans (hb3.mono HB2.out.size))
  have HO1c := Lib.hid ((Mod.ofBelow (F := fun _ => False) hb3).ownsRow HO1b.out (fun _ _ f => f))
  have HO2c := Lib.hid ((Mod.ofBelow (F := fun _ => False) hb3).ownsRow HO2.out (fun _ _ f => f))
  have HO3 := Lib.hid hown3
  clear hb3 hown3
  go_wp2_with fail
  go_loopw [37] (fun ix wr => ∃ i : Nat, i ≤ ts.length ∧ ix = .int .i64 i ∧ Below w.heap.size w wr ∧ Over a ts.length i wr ∧ wr.ownsRow w1.heap.size 37 6 (.slice b ts.length cap2) ts.length (tcells ts) ∧ wr.ownsRow w2.heap.size 57 6 (.slice c ts.length cap3) ts.length (tcells ts)) (fun ix _ => ts.length - (intOf ix).toNat)
  case atStart => exact ⟨0, Nat.zero_le _, rfl, HB3.out, over_start HO1c.out (tcells_len ts), HO2c.out, HO3.out⟩
  case round =>
    obtain ⟨i, hi, rfl, hbr, hov, hr2, hr3⟩ := hrel
    have HBR := Lib.hid hbr
    have HOV := Lib.hid hov
    have HR2 := Lib.hid hr2
    have HR3 := Lib.hid hr3
    clear hbr hov hr2 hr3
    by_cases hlt : i < ts.length
    · obtain ⟨g, rfl, hg1, hg2⟩ := own_some HO1.out (by omega)
      have hth : wr.there g (i * 6) 6 := fun j hj => by
        have := (HOV.out g rfl).1 (i * 6 + j) (by omega)
        rw [Nat.zero_add] at this
        exact this
      have HTH := Lib.hid hth
      clear hth
      go_wp2_with (refine wpList_store_mid rfl 37 _ _ rfl _ _ _ rfl rfl ?ht (by kernel_rfl) (by simp [Value.oneCell']) ?_)
      case ht => exact HTH.out
      go_roundw
      case rel =>
        refine ⟨i + 1, by omega, by go_num, ?_, over_step HOV.out hlt, ?_, ?_⟩
        · exact Mod.own HBR.out (mod_setCells _ _ _ _) hg1
        · exact (mod_setCells g _ _ wr).ownsRow HR2.out (fun k hk e => by have := (HR2.out.lt k hk).1; omega)
        · exact (mod_setCells g _ _ wr).ownsRow HR3.out (fun k hk e => by have := (HR3.out.lt k hk).1; have := HZ2.out; omega)
      case measure => simp only [intOf]; omega
    · have hie : i = ts.length := by omega
      subst hie
      go_wp2_with fail
      go_loop [50] (fun ix => ∃ j : Nat, j ≤ ts.length ∧ ix = .int .i64 j) (fun ix => ts.length - (intOf ix).toNat)
      case atStart => exact ⟨0, Nat.zero_le _, rfl⟩
      case round =>
        obtain ⟨j, hj, rfl⟩ := hrel
        by_cases hjl : j < ts.length
        · obtain ⟨g, rfl, hg1, hg2⟩ := own_some HO1.out (by omega)
          have c5 := (HOV.out g rfl).2 j hjl
          go_wp2_with fail
          go_round
          case rel => exact ⟨j + 1, by omega, by go_num⟩
          case measure => simp only [intOf]; omega
        · have hje : j = ts.length := by omega
          subst hje
          go_wp2_with fail
          refine (HT.out _ (HG.out.below HBR.out)).mono ?_
          rintro e w4 ⟨d, cap4, rfl, hown4, hb4⟩
          have HB4 := Lib.hid (HBR.out.trans (hb4.mono HBR.out.size))
          have HR2b := Lib.hid ((Mod.ofBelow (F := fun _ => False) hb4).ownsRow HR2.out (fun _ _ f => f))
          have HR3b := Lib.hid ((Mod.ofBelow (F := fun _ => False) hb4).ownsRow HR3.out (fun _ _ f => f))
          have HO4 := Lib.hid hown4
          clear hb4 hown4
          go_wp2_with fail
          refine (same_any ts HC3.out b c cap2 cap3 _ _ _ HR2b.out HR3b.out).mono ?_
          rintro e w5 ⟨rfl, hb5⟩
          have HB5 := Lib.hid (HB4.out.trans (hb5.mono HB4.out.size))
          have HR3c := Lib.hid ((Mod.ofBelow (F := fun _ => False) hb5).ownsRow HR3b.out (fun _ _ f => f))
          have HO4c := Lib.hid ((Mod.ofBelow (F := fun _ => False) hb5).ownsRow HO4.out (fun _ _ f => f))
          clear hb5
          go_wp2_with fail
          refine (same_any ts HC3.out d c cap4 cap3 _ _ _ HO4c.out HR3c.out).mono ?_
          rintro e w6 ⟨rfl, hb6⟩
          have HB6 := Lib.hid (HB5.out.trans (hb6.mono HB5.out.size))
          clear hb6
          go_wp2_with fail
          refine (awake07 _ (HG.out.below HB6.out)).mono ?_
          rintro e w7 ⟨rfl, hb7⟩
          have HB7 := Lib.hid (HB6.out.trans (hb7.mono HB6.out.size))
          clear hb7
          go_wp2_with fail
          go_ret
          exact ⟨by first | rfl | simp, HB7.out⟩
end Go.Proofs.YthfibaajmbhdkaaDoor
