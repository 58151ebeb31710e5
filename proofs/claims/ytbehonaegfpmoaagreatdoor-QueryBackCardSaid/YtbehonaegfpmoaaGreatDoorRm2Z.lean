/- osierref02.Copy, Same and osierref09.CopyAtom, walked. -/
import Derived.Test.YtbehonaegfpmoaaGreatDoorGr
import Derived.Test.YtbehonaegfpmoaaGreatDoorGm
import Derived.Test.YtbehonaegfpmoaaGreatDoorGg
namespace Go.Proofs.YtbehonaegfpmoaaGreatDoor
open Go.RowKit
set_option linter.unusedVariables false

theorem vl_len (vs : List Vl) : ∀ x ∈ vs.map Vl.cells, x.length = 3 := by
  intro x hx
  simp at hx
  obtain ⟨t, _, rfl⟩ := hx
  rfl
theorem vl_one (vs : List Vl) : ∀ x ∈ vs.map Vl.cells, ∀ u ∈ x, u.oneCell' = true := by
  intro x hx u hu
  simp at hx
  obtain ⟨t, _, rfl⟩ := hx
  simp only [Vl.cells, List.mem_cons, List.not_mem_nil, or_false] at hu
  rcases hu with rfl | rfl | rfl <;> rfl

set_option maxHeartbeats 2000000 in
set_option maxRecDepth 100000 in
theorem copyAtom_any (w : World) (rel : ByteArray) (tv : Value) (ts : List Trm) (h : RowAt w tv 4 (ts.map Trm.cells)) (hn : ts.length ≤ 2932031007317) :
    Calls Tryz.prog 20 #[.agg #[.string rel, tv]] w fun e w' => ∃ v, e = .returned (.agg #[.string rel, v]) ∧ w'.ownsRow w.heap.size 63 4 v ts.length (ts.map Trm.cells).flatten ∧ Below w.heap.size w w' := by
  obtain ⟨i0, hi0, hz0, hz1, hz2⟩ := info_parts Tryz.infoTrm
  obtain ⟨ad, cap, rfl, hnc, hcm⟩ := h.form
  simp only [List.length_map] at hnc ⊢
  unfold maxLen at hcm
  have HL := Lib.hid (trm_len ts)
  have HO := Lib.hid (trm_one ts)
  have hlen : (ts.map Trm.cells).length = ts.length := by simp
  generalize ts.map Trm.cells = xs at *
  generalize hN : ts.length = n at *
  rw [hlen] at h
  have HR := Lib.hid h
  have HX := Lib.hid hlen
  have HBX := Lib.hid ((Blk.new w 47 #[.string rel, .slice ad n cap]).alloc (.cells #[.string ⟨#[]⟩, .slice none 0 0] 47))
  have HBY := Lib.hid (blkNew1 w (.cells #[.string rel, .slice ad n cap] 47) 47 #[.string ⟨#[]⟩, .slice none 0 0])
  have HB0 := Lib.hid (balloc (balloc (Below.refl w.heap.size w) (.cells #[.string rel, .slice ad n cap] 47)) (.cells #[.string ⟨#[]⟩, .slice none 0 0] 47))
  clear h hN hlen
  go_enter Tryz.func20, Tryz.ntmps20
  go_wp2_with (at_make; refine wpList_make_full _ rfl _ _ 45 rfl w.heap.size 63 i0 (.agg #[.string ⟨#[]⟩, .int .i64 0, .int .i64 0, .string ⟨#[]⟩]) 4 Tryz.underlying45 hi0 hz0 hz1 _ _ _ _ n rfl rfl rfl rfl ?b2 ?b3 ?b4 ?_)
  case b2 => rw [hz2]; omega
  case b3 => unfold maxLen; omega
  case b4 => simp <;> omega
  intro w2 hown2 hgrow2
  have HOW2 := Lib.hid hown2
  have hbw2 : Below w.heap.size w w2 := HB0.out.grown hgrow2 (by simp <;> omega) (fun q hq => by cases hq)
  have HBW2 := Lib.hid hbw2
  have HR2 := Lib.hid (HR.out.keep hbw2)
  have bx := HBX.out.grown hgrow2 (by simp)
  have hby := HBY.out.grown hgrow2 (by simp)
  have x0 := bx.cell 0
  have x1 := bx.cell 1
  simp only [List.getElem?_toArray, List.getElem?_cons_zero, List.getElem?_cons_succ] at x0 x1
  have hxl := bx.lt
  have HBX2 := Lib.hid bx
  have HBY2 := Lib.hid hby
  clear hbw2 hown2 hgrow2 bx hby
  go_wp2_with (refine wpList_copy_full rfl _ _ _ _ rfl 63 4 Tryz.underlying45 (by kernel_rfl) (w.heap.size + 1 + 1) n _ rfl rfl _ w.heap.size HOW2.out xs HR2.out HX.out HL.out HO.out (by omega) ?_)
  intro w3 hown3 hmod3 hsz3
  have HOW3 := Lib.hid hown3
  have hbw3 := Mod.own HBW2.out hmod3 (by omega)
  have bx := HBX2.out.mod hmod3 (by omega)
  have hby := HBY2.out.mod hmod3 (by omega)
  have x0 := bx.cell 0
  simp only [List.getElem?_toArray, List.getElem?_cons_zero] at x0
  have hxl := bx.lt
  have HBW3 := Lib.hid hbw3
  have HBY3 := Lib.hid hby
  clear hown3 hmod3 hsz3 bx hby hbw3
  go_wp2_with (refine wpList_store_blk rfl 47 _ _ rfl (w.heap.size + 1) 47 _ _ rfl rfl HBY3.out (by kernel_rfl) rfl (by simp [Value.oneCell']) ?_)
  intro w4 hb4 hm4 hz4
  have r0 := hb4.cell 0
  have r1 := hb4.cell 1
  have HB4 := Lib.hid (Mod.own HBW3.out hm4 (by omega))
  have HO4 := Lib.hid (hm4.ownsRow HOW3.out (by intro q hq; simp [Value.ownBlock] at hq; omega))
  simp only [List.getElem?_toArray, List.getElem?_cons_zero, List.getElem?_cons_succ] at r0 r1
  clear hb4 hm4 hz4
  go_wp2_with fail
  exact bodyPost_ret (v := .agg #[.string rel, .slice (some ⟨w.heap.size + 1 + 1, 0, none⟩) n n]) (by simp [results, Tryz.results20, go_sem, *]) rfl ⟨_, rfl, HO4.out, HB4.out⟩

/-- Are the rows equal? -/
def sameV (a b : List Vl) : Bool := decide (a = b)
end Go.Proofs.YtbehonaegfpmoaaGreatDoor
