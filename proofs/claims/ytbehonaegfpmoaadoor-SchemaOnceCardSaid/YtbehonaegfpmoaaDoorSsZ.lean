/- osierref08.Copy, Same over the same, walked. -/
import Derived.Test.YtbehonaegfpmoaaDoorKc0Z
import Derived.Test.YtbehonaegfpmoaaDoorGm
import Derived.Test.YtbehonaegfpmoaaDoorGr
import Derived.Deep.RegionLaw
import Derived.Deep.QuietTactic
import Derived.BigQuiet
import Derived.OwnWalk
namespace Go.Proofs.YtbehonaegfpmoaaDoor
open Go.RowKit
set_option linter.unusedVariables false

theorem Tryd.infoCl : (Tryd.prog.info? 78).map (fun i => (i.zero, i.size, i.bytes)) = some (some (.agg #[.string ⟨#[]⟩, .int .i64 0]), 2, 24) := by kernel_rfl

set_option maxHeartbeats 1000000 in
theorem equal_col (d : Nat) (a b : Col) (w : World) : (Op.equalIn (d + 2) 78 (.agg a.cells.toArray) (.agg b.cells.toArray)).run Tryd.prog w = .ok (decide (a = b)) w := by
  have hf : (Tryd.prog.fieldsOf 78).toList.map f3 = [("Name", 9, 0), ("Kind", 50, 1)] := by kernel_rfl
  have p1 : ∀ w, (isAgg 50).run Tryd.prog w = .ok false w := fun _ => by kernel_rfl
  have p3 : ∀ w, (isAgg 9).run Tryd.prog w = .ok false w := fun _ => by kernel_rfl
  rw [run_equalIn_agg w (d + 1) _ _ _ (by kernel_rfl) (by kernel_rfl), eqF_of, hf]
  have e1 := fun (x y : Int) (w : World) => run_equalIn_int (P := Tryd.prog) w d 50 .i64 .i64 x y Tryd.underlying50
  have e3 := fun (x y : ByteArray) (w : World) => run_equalIn_string (P := Tryd.prog) w d 9 x y Tryd.underlying9
  obtain ⟨x, k⟩ := a
  obtain ⟨x', k'⟩ := b
  simp only [Col.cells, eqF, part, Sem.run_bind, Sem.run_ite, p1, p3, Result.andThen_ok]
  by_cases h1 : x = x' <;> by_cases h2 : k = k' <;> simp [h1, h2, e1, e3, Col.mk.injEq]
theorem neq_col (a b : Col) (w : World) : (binOp .neq 78 (.agg a.cells.toArray) (.agg b.cells.toArray)).run Tryd.prog w = .ok (.bool (!decide (a = b))) w := by
  rw [run_neq_struct, equal_col 9998]
  rfl
theorem eql_col (a b : Col) (w : World) : (binOp .eql 78 (.agg a.cells.toArray) (.agg b.cells.toArray)).run Tryd.prog w = .ok (.bool (decide (a = b))) w := by
  rw [run_eql_struct, equal_col 9998]
  rfl

set_option maxHeartbeats 2000000 in
set_option maxRecDepth 100000 in
theorem copyRel_any (w : World) (rel : ByteArray) (tv : Value) (ts : List Col) (h : RowAt w tv 2 (ts.map Col.cells)) (hn : ts.length ≤ 5864062014634) :
    Calls Tryd.prog 36 #[.agg #[.string rel, tv]] w fun e w' => ∃ v, e = .returned (.agg #[.string rel, v]) ∧ w'.ownsRow w.heap.size 78 2 v ts.length (ts.map Col.cells).flatten ∧ Below w.heap.size w w' := by
  obtain ⟨i0, hi0, hz0, hz1, hz2⟩ := info_parts Tryd.infoCl
  obtain ⟨ad, cap, rfl, hnc, hcm⟩ := h.form
  simp only [List.length_map] at hnc ⊢
  unfold maxLen at hcm
  have HL := Lib.hid (col_len ts)
  have HO := Lib.hid (col_one ts)
  have hlen : (ts.map Col.cells).length = ts.length := by simp
  generalize ts.map Col.cells = xs at *
  generalize hN : ts.length = n at *
  rw [hlen] at h
  have HR := Lib.hid h
  have HX := Lib.hid hlen
  have HBX := Lib.hid ((Blk.new w 58 #[.string rel, .slice ad n cap]).alloc (.cells #[.string ⟨#[]⟩, .slice none 0 0] 58))
  have HBY := Lib.hid (blkNew1 w (.cells #[.string rel, .slice ad n cap] 58) 58 #[.string ⟨#[]⟩, .slice none 0 0])
  have HB0 := Lib.hid (balloc (balloc (Below.refl w.heap.size w) (.cells #[.string rel, .slice ad n cap] 58)) (.cells #[.string ⟨#[]⟩, .slice none 0 0] 58))
  clear h hN hlen
  go_enter Tryd.func36, Tryd.ntmps36
  go_wp2_with (at_make; refine wpList_make_full _ rfl _ _ 56 rfl w.heap.size 78 i0 (.agg #[.string ⟨#[]⟩, .int .i64 0]) 2 Tryd.underlying56 hi0 hz0 hz1 _ _ _ _ n rfl rfl rfl rfl ?b2 ?b3 ?b4 ?_)
  case b2 => rw [hz2]; omega
  case b3 => unfold maxLen; omega
  case b4 => simp <;> omega
  intro w2 hown2 hgrow2
  have HOW2 := Lib.hid hown2
  have hbw2 : Below w.heap.size w w2 := HB0.out.grown hgrow2 (by simp <;> omega) (fun q hq => by cases hq)
  have HBW2 := Lib.hid hbw2
  have HR2 := Lib.hid (HR.out.keep hbw2)
  have bx := HBX.out.grown hgrow2 (by simp)
  have hby := HBY.out.grown hgrow2 (by simp)
  have x0 := bx.cell 0
  have x1 := bx.cell 1
  simp only [List.getElem?_toArray, List.getElem?_cons_zero, List.getElem?_cons_succ] at x0 x1
  have hxl := bx.lt
  have HBX2 := Lib.hid bx
  have HBY2 := Lib.hid hby
  clear hbw2 hown2 hgrow2 bx hby
  go_wp2_with (refine wpList_copy_full rfl _ _ _ _ rfl 78 2 Tryd.underlying56 (by kernel_rfl) (w.heap.size + 1 + 1) n _ rfl rfl _ w.heap.size HOW2.out xs HR2.out HX.out HL.out HO.out (by omega) ?_)
  intro w3 hown3 hmod3 hsz3
  have HOW3 := Lib.hid hown3
  have hbw3 := Mod.own HBW2.out hmod3 (by omega)
  have bx := HBX2.out.mod hmod3 (by omega)
  have hby := HBY2.out.mod hmod3 (by omega)
  have x0 := bx.cell 0
  simp only [List.getElem?_toArray, List.getElem?_cons_zero] at x0
  have hxl := bx.lt
  have HBW3 := Lib.hid hbw3
  have HBY3 := Lib.hid hby
  clear hown3 hmod3 hsz3 bx hby hbw3
  go_wp2_with (refine wpList_store_blk rfl 58 _ _ rfl (w.heap.size + 1) 58 _ _ rfl rfl HBY3.out (by kernel_rfl) rfl (by simp [Value.oneCell']) ?_)
  intro w4 hb4 hm4 hz4
  have r0 := hb4.cell 0
  have r1 := hb4.cell 1
  have HB4 := Lib.hid (Mod.own HBW3.out hm4 (by omega))
  have HO4 := Lib.hid (hm4.ownsRow HOW3.out (by intro q hq; simp [Value.ownBlock] at hq; omega))
  simp only [List.getElem?_toArray, List.getElem?_cons_zero, List.getElem?_cons_succ] at r0 r1
  clear hb4 hm4 hz4
  go_wp2_with fail
  exact bodyPost_ret (v := .agg #[.string rel, .slice (some ⟨w.heap.size + 1 + 1, 0, none⟩) n n]) (by simp [results, Tryd.results36, go_sem, *]) rfl ⟨_, rfl, HO4.out, HB4.out⟩

set_option maxHeartbeats 4000000 in
set_option maxRecDepth 100000 in
theorem sameRel_any (w : World) (rel : ByteArray) (va vb : Value) (ts : List Col) (ha : RowAt w va 2 (ts.map Col.cells)) (hb : RowAt w vb 2 (ts.map Col.cells)) :
    Calls Tryd.prog 35 #[.agg #[.string rel, va], .agg #[.string rel, vb]] w fun e w' => e = .returned (.bool true) ∧ Below w.heap.size w w' := by
  obtain ⟨aa, ac, rfl, hac, ham⟩ := ha.form
  obtain ⟨ba, bc, rfl, hbc, hbm⟩ := hb.form
  have hneq : ∀ (x : List UInt8) (k : Int) (w : World), (binOp .neq 78 (.agg #[.string ⟨x.toArray⟩, .int .i64 k]) (.agg #[.string ⟨x.toArray⟩, .int .i64 k])).run Tryd.prog w = .ok (.bool false) w := fun x k w => by
    have := neq_col ⟨x, k⟩ ⟨x, k⟩ w
    simpa [Col.cells] using this
  have hla := ha.len
  unfold maxLen at ham hbm
  have HA := Lib.hid ha
  have HB := Lib.hid hb
  simp only [List.length_map] at hac hbc hla ⊢
  generalize hN : ts.length = n at *
  have HN := Lib.hid hN
  clear ha hb hN
  go_enter Tryd.func35, Tryd.ntmps35
  go_wp2_with fail
  go_loopw [5] (fun i wr => ∃ k : Nat, k ≤ n ∧ i = .int .i64 k ∧ Hid (Blk wr w.heap.size 58 #[.string rel, .slice aa n ac]) ∧ Hid (Blk wr (w.heap.size + 1) 58 #[.string rel, .slice ba n bc]) ∧ Hid (Below w.heap.size w wr)) (fun i _ => n - (intOf i).toNat)
  case atStart => exact ⟨0, Nat.zero_le _, rfl, Lib.hid ((Blk.new _ _ _).alloc _), Lib.hid (blkNew1 _ _ _ _), Lib.hid (balloc (balloc (Below.refl _ _) _) _)⟩
  case round =>
    obtain ⟨k, hk, rfl, XA, XB, BW⟩ := hrel
    have a1 := XA.out.cell 1
    have b1 := XB.out.cell 1
    simp only [List.getElem?_toArray, List.getElem?_cons_zero, List.getElem?_cons_succ] at a1 b1
    have hal := XA.out.lt
    have hbl := XB.out.lt
    by_cases hlt : k < n
    · obtain ⟨t, ht⟩ : ∃ t, ts[k]? = some t := ⟨ts[k]'(by rw [HN.out]; exact hlt), List.getElem?_eq_getElem (by rw [HN.out]; exact hlt)⟩
      obtain ⟨g1, o1, c1, hv1, _, _, hgl1, k1⟩ := (HA.out.keep BW.out).get (i := k) (x := t.cells) (by simp [ht])
      obtain ⟨g2, o2, c2, hv2, _, _, hgl2, k2⟩ := (HB.out.keep BW.out).get (i := k) (x := t.cells) (by simp [ht])
      simp only [List.length_map, HN.out, Value.slice.injEq, true_and] at hv1 hv2
      obtain ⟨rfl, rfl⟩ := hv1
      obtain ⟨rfl, rfl⟩ := hv2
      have p0 := k1 0 _ rfl
      have p1 := k1 1 _ rfl
      have r0 := k2 0 _ rfl
      have r1 := k2 1 _ rfl
      simp only [Nat.add_zero] at p0 r0
      have hd : decide ((k : Int) < 0) = false := by simp
      have hd2 : decide ((n : Int) ≤ (k : Int)) = false := by simp; omega
      clear k1 k2 ht
      go_wp2_with fail
      go_quiet (fail)
      go_wp2_with fail
      go_roundw
      case rel => exact ⟨k + 1, by omega, by go_num, Lib.hid (XA.out.drewN _), Lib.hid (XB.out.drewN _), Lib.hid (bdrewN BW.out _)⟩
      case measure => simp [intOf]; omega
    · obtain rfl : k = n := by omega
      go_wp2_with fail
      go_ret
      exact ⟨rfl, BW.out⟩

end Go.Proofs.YtbehonaegfpmoaaDoor
