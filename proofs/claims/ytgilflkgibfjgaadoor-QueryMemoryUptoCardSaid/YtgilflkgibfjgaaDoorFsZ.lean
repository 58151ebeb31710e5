/- osierref09.SameAtom, Same, over the same: true. -/
import Derived.Test.YtgilflkgibfjgaaDoorGm
import Derived.Test.YtgilflkgibfjgaaDoorGg
import Derived.Deep.RegionLaw
namespace Go.Proofs.YtgilflkgibfjgaaDoor
open Go.RowKit
set_option linter.unusedVariables false

set_option maxHeartbeats 1000000 in
theorem equal_term (d : Nat) (a b : Trm) (w : World) : (Op.equalIn (d + 3) 47 (.agg a.cells.toArray) (.agg b.cells.toArray)).run Tryd.prog w = .ok (decide (a = b)) w := by
  have hf : (Tryd.prog.fieldsOf 47).toList.map f3 = [("Var", 9, 0), ("Const", 45, 1)] := by kernel_rfl
  have p1 : ∀ (a b c d : Value) w, (part 9 #[a, b, c, d] 0).run Tryd.prog w = .ok a w := fun _ _ _ _ _ => by kernel_rfl
  have p2 : ∀ (a b c d : Value) w, (part 45 #[a, b, c, d] 1).run Tryd.prog w = .ok (.agg #[b, c, d]) w := fun _ _ _ _ _ => by kernel_rfl
  rw [run_equalIn_agg w (d + 2) _ _ _ (by kernel_rfl) (by kernel_rfl), eqF_of, hf]
  have e1 := fun (x y : ByteArray) (w : World) => run_equalIn_string (P := Tryd.prog) w (d + 1) 9 x y Tryd.underlying9
  have e2 := fun (v u : Vl) (w : World) => equal_value d v u w
  obtain ⟨x, k, n, t⟩ := a
  obtain ⟨x', k', n', t'⟩ := b
  have e3 := fun (w : World) => e2 ⟨k, n, t⟩ ⟨k', n', t'⟩ w
  simp only [Vl.cells] at e3
  simp only [Trm.cells, eqF, Sem.run_bind, Sem.run_ite, p1, p2, Result.andThen_ok]
  by_cases h1 : x = x' <;> by_cases h2 : (⟨k, n, t⟩ : Vl) = ⟨k', n', t'⟩ <;> simp [h1, h2, e1, e3, Trm.mk.injEq] <;> simp_all
theorem neq_term (a b : Trm) (w : World) : (binOp .neq 47 (.agg a.cells.toArray) (.agg b.cells.toArray)).run Tryd.prog w = .ok (.bool (!decide (a = b))) w := by
  rw [run_neq_struct, equal_term 9997]
  rfl

set_option maxHeartbeats 4000000 in
set_option maxRecDepth 100000 in
theorem sameAtom_any (w : World) (rel : ByteArray) (va vb : Value) (ts : List Trm) (ha : RowAt w va 4 (ts.map Trm.cells)) (hb : RowAt w vb 4 (ts.map Trm.cells)) :
    Calls Tryd.prog 53 #[.agg #[.string rel, va], .agg #[.string rel, vb]] w fun e w' => e = .returned (.bool true) ∧ Below w.heap.size w w' := by
  obtain ⟨aa, ac, rfl, hac, ham⟩ := ha.form
  obtain ⟨ba, bc, rfl, hbc, hbm⟩ := hb.form
  have hneq : ∀ (x : List UInt8) (k n : Int) (t : List UInt8) (w : World), (binOp .neq 47 (.agg #[.string ⟨x.toArray⟩, .int .i64 k, .int .i64 n, .string ⟨t.toArray⟩]) (.agg #[.string ⟨x.toArray⟩, .int .i64 k, .int .i64 n, .string ⟨t.toArray⟩])).run Tryd.prog w = .ok (.bool false) w := fun x k n t w => by
    have := neq_term ⟨x, k, n, t⟩ ⟨x, k, n, t⟩ w
    simpa [Trm.cells] using this
  have hla := ha.len
  unfold maxLen at ham hbm
  have HA := Lib.hid ha
  have HB := Lib.hid hb
  simp only [List.length_map] at hac hbc hla ⊢
  generalize hN : ts.length = n at *
  have HN := Lib.hid hN
  clear ha hb hN
  go_enter Tryd.func53, Tryd.ntmps53
  go_wp2_with fail
  go_loopw [5] (fun i wr => ∃ k : Nat, k ≤ n ∧ i = .int .i64 k ∧ Hid (Blk wr w.heap.size 33 #[.string rel, .slice aa n ac]) ∧ Hid (Blk wr (w.heap.size + 1) 33 #[.string rel, .slice ba n bc]) ∧ Hid (Below w.heap.size w wr)) (fun i _ => n - (intOf i).toNat)
  case atStart => exact ⟨0, Nat.zero_le _, rfl, Lib.hid ((Blk.new _ _ _).alloc _), Lib.hid (blkNew1 _ _ _ _), Lib.hid (balloc (balloc (Below.refl _ _) _) _)⟩
  case round =>
    obtain ⟨k, hk, rfl, XA, XB, BW⟩ := hrel
    have a1 := XA.out.cell 1
    have b1 := XB.out.cell 1
    simp only [List.getElem?_toArray, List.getElem?_cons_zero, List.getElem?_cons_succ] at a1 b1
    have hal := XA.out.lt
    have hbl := XB.out.lt
    by_cases hlt : k < n
    · obtain ⟨t, ht⟩ : ∃ t, ts[k]? = some t := ⟨ts[k]'(by rw [HN.out]; exact hlt), List.getElem?_eq_getElem (by rw [HN.out]; exact hlt)⟩
      obtain ⟨g1, o1, c1, hv1, _, _, hgl1, k1⟩ := (HA.out.keep BW.out).get (i := k) (x := t.cells) (by simp [ht])
      obtain ⟨g2, o2, c2, hv2, _, _, hgl2, k2⟩ := (HB.out.keep BW.out).get (i := k) (x := t.cells) (by simp [ht])
      simp only [List.length_map, HN.out, Value.slice.injEq, true_and] at hv1 hv2
      obtain ⟨rfl, rfl⟩ := hv1
      obtain ⟨rfl, rfl⟩ := hv2
      have p0 := k1 0 _ rfl
      have p1 := k1 1 _ rfl
      have p2 := k1 2 _ rfl
      have p3 := k1 3 _ rfl
      have r0 := k2 0 _ rfl
      have r1 := k2 1 _ rfl
      have r2 := k2 2 _ rfl
      have r3 := k2 3 _ rfl
      simp only [Nat.add_zero] at p0 r0
      have hd : decide ((k : Int) < 0) = false := by simp
      have hd2 : decide ((n : Int) ≤ (k : Int)) = false := by simp; omega
      clear k1 k2 ht
      go_wp2_with fail
      go_quiet (fail)
      go_wp2_with fail
      go_roundw
      case rel => exact ⟨k + 1, by omega, by go_num, Lib.hid (XA.out.drewN _), Lib.hid (XB.out.drewN _), Lib.hid (bdrewN BW.out _)⟩
      case measure => simp [intOf]; omega
    · obtain rfl : k = n := by omega
      go_wp2_with fail
      go_ret
      exact ⟨rfl, BW.out⟩

set_option maxHeartbeats 3000000 in
set_option maxRecDepth 100000 in
theorem same_any (w : World) (name : ByteArray) (ha hb va vb : Value) (hd : List (List UInt8)) (al : List Atm) (h1 : StrsAt w ha hd) (h2 : StrsAt w hb hd) (h3 : AtomsAt w va al) (h4 : AtomsAt w vb al) :
    Calls Tryd.prog 15 #[.agg #[.string name, ha, va], .agg #[.string name, hb, vb]] w fun e w' => e = .returned (.bool true) ∧ Below w.heap.size w w' := by
  obtain ⟨aa, ac, rfl, hac, ham⟩ := h3.form
  obtain ⟨ba, bc, rfl, hbc, hbm⟩ := h4.form
  obtain ⟨ra, rows, hrows⟩ := h3
  obtain ⟨h1a, h1c, rfl, _, _⟩ := h1.form
  obtain ⟨h2a, h2c, rfl, _, _⟩ := h2.form
  unfold maxLen at ham hbm
  have hal0 := ra
  have HA : Hid (AtomsAt w (.slice aa al.length ac) al) := Lib.hid ⟨_, rows, hrows⟩
  have HB := Lib.hid h4
  have b0 : Below w.heap.size w ((w.alloc (.cells #[.string name, .slice h1a hd.length h1c, .slice aa al.length ac] 25)).alloc (.cells #[.string name, .slice h2a hd.length h2c, .slice ba al.length bc] 25)) := balloc (balloc (Below.refl _ _) _) _
  have hst := sameTexts_any _ _ _ hd hd (h1.keep b0) (h2.keep b0)
  rw [decide_eq_true rfl] at hst
  have HST := Lib.hid hst
  have B0 := Lib.hid b0
  have XA0 := Lib.hid ((Blk.new w 25 #[.string name, .slice h1a hd.length h1c, .slice aa al.length ac]).alloc (.cells #[.string name, .slice h2a hd.length h2c, .slice ba al.length bc] 25))
  have XB0 := Lib.hid (blkNew1 w (.cells #[.string name, .slice h1a hd.length h1c, .slice aa al.length ac] 25) 25 #[.string name, .slice h2a hd.length h2c, .slice ba al.length bc])
  generalize hN : al.length = n at *
  have HN := Lib.hid hN
  clear h1 h2 h4 hst b0 rows hrows hN hal0 ra
  go_enter Tryd.func15, Tryd.ntmps15
  go_wp2_with fail
  refine HST.out.mono ?_
  rintro e w1 ⟨rfl, hb1⟩
  have XA1 := Lib.hid (XA0.out.below hb1 (by simp <;> omega))
  have XB1 := Lib.hid (XB0.out.below hb1 (by simp <;> omega))
  have B1 := Lib.hid (B0.out.trans (hb1.mono (by simp <;> omega)))
  have a2 := XA1.out.cell 2
  have b2 := XB1.out.cell 2
  simp only [List.getElem?_toArray, List.getElem?_cons_zero, List.getElem?_cons_succ] at a2 b2
  have hal := XA1.out.lt
  have hbl := XB1.out.lt
  clear hb1
  go_wp2_with fail
  go_loopw [5] (fun i wr => ∃ k : Nat, k ≤ n ∧ i = .int .i64 k ∧ Hid (Blk wr w.heap.size 25 #[.string name, .slice h1a hd.length h1c, .slice aa n ac]) ∧ Hid (Blk wr (w.heap.size + 1) 25 #[.string name, .slice h2a hd.length h2c, .slice ba n bc]) ∧ Hid (Below w.heap.size w wr)) (fun i _ => n - (intOf i).toNat)
  case atStart => exact ⟨0, Nat.zero_le _, rfl, XA1, XB1, B1⟩
  case round =>
    obtain ⟨k, hk, rfl, XA, XB, BW⟩ := hrel
    have a2 := XA.out.cell 2
    have b2 := XB.out.cell 2
    simp only [List.getElem?_toArray, List.getElem?_cons_zero, List.getElem?_cons_succ] at a2 b2
    have hal := XA.out.lt
    have hbl := XB.out.lt
    by_cases hlt : k < n
    · obtain ⟨a, ha⟩ : ∃ a, al[k]? = some a := ⟨al[k]'(by rw [HN.out]; exact hlt), List.getElem?_eq_getElem (by rw [HN.out]; exact hlt)⟩
      obtain ⟨g1, o1, c1, t1, hv1, _, _, hgl1, p0, p1, hr1, _⟩ := (HA.out.keep BW.out).get ha
      obtain ⟨g2, o2, c2, t2, hv2, _, _, hgl2, r0, r1, hr2, _⟩ := (HB.out.keep BW.out).get ha
      rw [HN.out] at hv1 hv2
      simp only [Value.slice.injEq, true_and] at hv1 hv2
      obtain ⟨rfl, rfl⟩ := hv1
      obtain ⟨rfl, rfl⟩ := hv2
      obtain ⟨t1a, t1c, rfl, _, _⟩ := hr1.form
      obtain ⟨t2a, t2c, rfl, _, _⟩ := hr2.form
      have hd : decide ((k : Int) < 0) = false := by simp
      have hd2 : decide ((n : Int) ≤ (k : Int)) = false := by simp; omega
      simp only [List.length_map] at p1 r1 hr1 hr2
      have HSA := Lib.hid (sameAtom_any wr.drew ⟨a.rel.toArray⟩ _ _ a.ts (hr1.keep (bdrew (Below.refl _ _))) (hr2.keep (bdrew (Below.refl _ _))))
      clear ha hr1 hr2
      go_wp2_with fail
      go_region_law (go_simp; go_at_call 53; refine HSA.out.mono ?_; rintro e w6 ⟨rfl, hb6⟩)
      all_goals
        have XA6 := Lib.hid (XA.out.drew.below hb6 hal)
        have XB6 := Lib.hid (XB.out.drew.below hb6 hbl)
        have B6 := Lib.hid ((bdrew BW.out).trans (hb6.mono (by have := BW.out.size; simpa using this)))
        clear hb6
        go_wp2_with fail
        go_roundw
        case rel => exact ⟨k + 1, by omega, by go_num, XA6, XB6, B6⟩
        case measure => simp [intOf]; omega
    · obtain rfl : k = n := by omega
      go_wp2_with fail
      go_ret
      exact ⟨rfl, BW.out⟩
end Go.Proofs.YtgilflkgibfjgaaDoor
