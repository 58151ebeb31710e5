/- osierref08.Copy, Same over the same, walked. -/
import Derived.Test.YtgilflkgibfjgaaGreatDoorKa
import Derived.Test.YtgilflkgibfjgaaGreatDoorGm
import Derived.Test.YtgilflkgibfjgaaGreatDoorGr
import Derived.Deep.RegionLaw
import Derived.Deep.QuietTactic
import Derived.BigQuiet
import Derived.OwnWalk
namespace Go.Proofs.YtgilflkgibfjgaaGreatDoor
open Go.RowKit
set_option linter.unusedVariables false

theorem Tryz.infoCl : (Tryz.prog.info? 104).map (fun i => (i.zero, i.size, i.bytes)) = some (some (.agg #[.string ⟨#[]⟩, .int .i64 0]), 2, 24) := by kernel_rfl

set_option maxHeartbeats 1000000 in
theorem equal_col (d : Nat) (a b : Col) (w : World) : (Op.equalIn (d + 2) 104 (.agg a.cells.toArray) (.agg b.cells.toArray)).run Tryz.prog w = .ok (decide (a = b)) w := by
  have hf : (Tryz.prog.fieldsOf 104).toList.map f3 = [("Name", 9, 0), ("Kind", 63, 1)] := by kernel_rfl
  have p1 : ∀ w, (isAgg 63).run Tryz.prog w = .ok false w := fun _ => by kernel_rfl
  have p3 : ∀ w, (isAgg 9).run Tryz.prog w = .ok false w := fun _ => by kernel_rfl
  rw [run_equalIn_agg w (d + 1) _ _ _ (by kernel_rfl) (by kernel_rfl), eqF_of, hf]
  have e1 := fun (x y : Int) (w : World) => run_equalIn_int (P := Tryz.prog) w d 63 .i64 .i64 x y Tryz.underlying63
  have e3 := fun (x y : ByteArray) (w : World) => run_equalIn_string (P := Tryz.prog) w d 9 x y Tryz.underlying9
  obtain ⟨x, k⟩ := a
  obtain ⟨x', k'⟩ := b
  simp only [Col.cells, eqF, part, Sem.run_bind, Sem.run_ite, p1, p3, Result.andThen_ok]
  by_cases h1 : x = x' <;> by_cases h2 : k = k' <;> simp [h1, h2, e1, e3, Col.mk.injEq]
theorem neq_col (a b : Col) (w : World) : (binOp .neq 104 (.agg a.cells.toArray) (.agg b.cells.toArray)).run Tryz.prog w = .ok (.bool (!decide (a = b))) w := by
  rw [run_neq_struct, equal_col 9998]
  rfl
theorem eql_col (a b : Col) (w : World) : (binOp .eql 104 (.agg a.cells.toArray) (.agg b.cells.toArray)).run Tryz.prog w = .ok (.bool (decide (a = b))) w := by
  rw [run_eql_struct, equal_col 9998]
  rfl

set_option maxHeartbeats 2000000 in
set_option maxRecDepth 100000 in
theorem copyRel_any (w : World) (rel : ByteArray) (tv : Value) (ts : List Col) (h : RowAt w tv 2 (ts.map Col.cells)) (hn : ts.length ≤ 5864062014634) :
    Calls Tryz.prog 51 #[.agg #[.string rel, tv]] w fun e w' => ∃ v, e = .returned (.agg #[.string rel, v]) ∧ w'.ownsRow w.heap.size 104 2 v ts.length (ts.map Col.cells).flatten ∧ Below w.heap.size w w' := by
  obtain ⟨i0, hi0, hz0, hz1, hz2⟩ := info_parts Tryz.infoCl
  obtain ⟨ad, cap, rfl, hnc, hcm⟩ := h.form
  simp only [List.length_map] at hnc ⊢
  unfold maxLen at hcm
  have HL := Lib.hid (col_len ts)
  have HO := Lib.hid (col_one ts)
  have hlen : (ts.map Col.cells).length = ts.length := by simp
  generalize ts.map Col.cells = xs at *
  generalize hN : ts.length = n at *
  rw [hlen] at h
  have HR := Lib.hid h
  have HX := Lib.hid hlen
  have HBX := Lib.hid ((Blk.new w 99 #[.string rel, .slice ad n cap]).alloc (.cells #[.string ⟨#[]⟩, .slice none 0 0] 99))
  have HBY := Lib.hid (blkNew1 w (.cells #[.string rel, .slice ad n cap] 99) 99 #[.string ⟨#[]⟩, .slice none 0 0])
  have HB0 := Lib.hid (balloc (balloc (Below.refl w.heap.size w) (.cells #[.string rel, .slice ad n cap] 99)) (.cells #[.string ⟨#[]⟩, .slice none 0 0] 99))
  clear h hN hlen
  go_enter Tryz.func51, Tryz.ntmps51
  go_wp2_with (at_make; refine wpList_make_full _ rfl _ _ 97 rfl w.heap.size 104 i0 (.agg #[.string ⟨#[]⟩, .int .i64 0]) 2 Tryz.underlying97 hi0 hz0 hz1 _ _ _ _ n rfl rfl rfl rfl ?b2 ?b3 ?b4 ?_)
  case b2 => rw [hz2]; omega
  case b3 => unfold maxLen; omega
  case b4 => simp <;> omega
  intro w2 hown2 hgrow2
  have HOW2 := Lib.hid hown2
  have hbw2 : Below w.heap.size w w2 := HB0.out.grown hgrow2 (by simp <;> omega) (fun q hq => by cases hq)
  have HBW2 := Lib.hid hbw2
  have HR2 := Lib.hid (HR.out.keep hbw2)
  have bx := HBX.out.grown hgrow2 (by simp)
  have hby := HBY.out.grown hgrow2 (by simp)
  have x0 := bx.cell 0
  have x1 := bx.cell 1
  simp only [List.getElem?_toArray, List.getElem?_cons_zero, List.getElem?_cons_succ] at x0 x1
  have hxl := bx.lt
  have HBX2 := Lib.hid bx
  have HBY2 := Lib.hid hby
  clear hbw2 hown2 hgrow2 bx hby
  go_wp2_with (refine wpList_copy_full rfl _ _ _ _ rfl 104 2 Tryz.underlying97 (by kernel_rfl) (w.heap.size + 1 + 1) n _ rfl rfl _ w.heap.size HOW2.out xs HR2.out HX.out HL.out HO.out (by omega) ?_)
  intro w3 hown3 hmod3 hsz3
  have HOW3 := Lib.hid hown3
  have hbw3 := Mod.own HBW2.out hmod3 (by omega)
  have bx := HBX2.out.mod hmod3 (by omega)
  have hby := HBY2.out.mod hmod3 (by omega)
  have x0 := bx.cell 0
  simp only [List.getElem?_toArray, List.getElem?_cons_zero] at x0
  have hxl := bx.lt
  have HBW3 := Lib.hid hbw3
  have HBY3 := Lib.hid hby
  clear hown3 hmod3 hsz3 bx hby hbw3
  go_wp2_with (refine wpList_store_blk rfl 99 _ _ rfl (w.heap.size + 1) 99 _ _ rfl rfl HBY3.out (by kernel_rfl) rfl (by simp [Value.oneCell']) ?_)
  intro w4 hb4 hm4 hz4
  have r0 := hb4.cell 0
  have r1 := hb4.cell 1
  have HB4 := Lib.hid (Mod.own HBW3.out hm4 (by omega))
  have HO4 := Lib.hid (hm4.ownsRow HOW3.out (by intro q hq; simp [Value.ownBlock] at hq; omega))
  simp only [List.getElem?_toArray, List.getElem?_cons_zero, List.getElem?_cons_succ] at r0 r1
  clear hb4 hm4 hz4
  go_wp2_with fail
  exact bodyPost_ret (v := .agg #[.string rel, .slice (some ⟨w.heap.size + 1 + 1, 0, none⟩) n n]) (by simp [results, Tryz.results51, go_sem, *]) rfl ⟨_, rfl, HO4.out, HB4.out⟩

end Go.Proofs.YtgilflkgibfjgaaGreatDoor
