/- osierref02.Copy, Same and osierref09.CopyAtom, walked. -/
import Derived.Test.YtgilflkgibfjgaaDoorGr
import Derived.Test.YtgilflkgibfjgaaDoorGm
import Derived.Test.YtgilflkgibfjgaaDoorGg
namespace Go.Proofs.YtgilflkgibfjgaaDoor
open Go.RowKit
set_option linter.unusedVariables false

theorem vl_len (vs : List Vl) : ∀ x ∈ vs.map Vl.cells, x.length = 3 := by
  intro x hx
  simp at hx
  obtain ⟨t, _, rfl⟩ := hx
  rfl
theorem vl_one (vs : List Vl) : ∀ x ∈ vs.map Vl.cells, ∀ u ∈ x, u.oneCell' = true := by
  intro x hx u hu
  simp at hx
  obtain ⟨t, _, rfl⟩ := hx
  simp only [Vl.cells, List.mem_cons, List.not_mem_nil, or_false] at hu
  rcases hu with rfl | rfl | rfl <;> rfl

set_option maxHeartbeats 2000000 in
set_option maxRecDepth 100000 in
theorem copyRow_any (w : World) (rv : Value) (vs : List Vl) (h : RowAt w rv 3 (vs.map Vl.cells)) (hv : vs.length ≤ 4398046511104) :
    Calls Tryd.prog 20 #[rv] w fun e w' => ∃ v, e = .returned v ∧ w'.ownsRow w.heap.size 45 3 v vs.length (vs.map Vl.cells).flatten ∧ Below w.heap.size w w' := by
  obtain ⟨i0, hi0, hz0, hz1, hz2⟩ := info_parts Tryd.infoVal
  obtain ⟨ad, cap, rfl, hnc, hcm⟩ := h.form
  simp only [List.length_map] at hnc ⊢
  unfold maxLen at hcm
  have HR := Lib.hid h
  have HL := Lib.hid (vl_len vs)
  have HO := Lib.hid (vl_one vs)
  have hlen : (vs.map Vl.cells).length = vs.length := by simp
  generalize vs.map Vl.cells = xs at *
  generalize hN : vs.length = n at *
  rw [hlen] at HR
  have HX := Lib.hid hlen
  clear h hN hlen
  go_enter Tryd.func20, Tryd.ntmps20
  go_wp2_with (at_make; refine wpList_make_full _ rfl _ _ 35 rfl w.heap.size 45 i0 (.agg #[.int .i64 0, .int .i64 0, .string ⟨#[]⟩]) 3 Tryd.underlying35 hi0 hz0 hz1 _ _ _ _ n rfl rfl rfl rfl ?b2 ?b3 ?b4 ?_)
  case b2 => rw [hz2]; omega
  case b3 => unfold maxLen; omega
  case b4 => omega
  intro w2 hown2 hgrow2
  have hbw2 : Below w.heap.size w w2 := (Below.refl _ w).grown hgrow2 (Nat.le_refl _) (fun q hq => by cases hq)
  have HOW2 := Lib.hid hown2
  have HBW2 := Lib.hid hbw2
  have HR2 := Lib.hid (HR.out.keep hbw2)
  clear hbw2 hown2 hgrow2
  go_wp2_with (refine wpList_copy_full rfl _ _ _ _ rfl 45 3 Tryd.underlying35 (by kernel_rfl) w.heap.size n _ rfl rfl _ w.heap.size HOW2.out xs HR2.out HX.out HL.out HO.out (Nat.le_refl _) ?_)
  intro w3 hown3 hmod3 hsz3
  have HOW3 := Lib.hid hown3
  have HBW3 := Lib.hid (Mod.own HBW2.out hmod3 (Nat.le_refl _))
  clear hown3 hmod3 hsz3
  go_wp2_with fail
  go_ret
  exact ⟨_, rfl, HOW3.out, HBW3.out⟩

set_option maxHeartbeats 2000000 in
set_option maxRecDepth 100000 in
theorem copyAtom_any (w : World) (rel : ByteArray) (tv : Value) (ts : List Trm) (h : RowAt w tv 4 (ts.map Trm.cells)) (hn : ts.length ≤ 2932031007317) :
    Calls Tryd.prog 19 #[.agg #[.string rel, tv]] w fun e w' => ∃ v, e = .returned (.agg #[.string rel, v]) ∧ w'.ownsRow w.heap.size 47 4 v ts.length (ts.map Trm.cells).flatten ∧ Below w.heap.size w w' := by
  obtain ⟨i0, hi0, hz0, hz1, hz2⟩ := info_parts Tryd.infoTrm
  obtain ⟨ad, cap, rfl, hnc, hcm⟩ := h.form
  simp only [List.length_map] at hnc ⊢
  unfold maxLen at hcm
  have HL := Lib.hid (trm_len ts)
  have HO := Lib.hid (trm_one ts)
  have hlen : (ts.map Trm.cells).length = ts.length := by simp
  generalize ts.map Trm.cells = xs at *
  generalize hN : ts.length = n at *
  rw [hlen] at h
  have HR := Lib.hid h
  have HX := Lib.hid hlen
  have HBX := Lib.hid ((Blk.new w 33 #[.string rel, .slice ad n cap]).alloc (.cells #[.string ⟨#[]⟩, .slice none 0 0] 33))
  have HBY := Lib.hid (blkNew1 w (.cells #[.string rel, .slice ad n cap] 33) 33 #[.string ⟨#[]⟩, .slice none 0 0])
  have HB0 := Lib.hid (balloc (balloc (Below.refl w.heap.size w) (.cells #[.string rel, .slice ad n cap] 33)) (.cells #[.string ⟨#[]⟩, .slice none 0 0] 33))
  clear h hN hlen
  go_enter Tryd.func19, Tryd.ntmps19
  go_wp2_with (at_make; refine wpList_make_full _ rfl _ _ 31 rfl w.heap.size 47 i0 (.agg #[.string ⟨#[]⟩, .int .i64 0, .int .i64 0, .string ⟨#[]⟩]) 4 Tryd.underlying31 hi0 hz0 hz1 _ _ _ _ n rfl rfl rfl rfl ?b2 ?b3 ?b4 ?_)
  case b2 => rw [hz2]; omega
  case b3 => unfold maxLen; omega
  case b4 => simp <;> omega
  intro w2 hown2 hgrow2
  have HOW2 := Lib.hid hown2
  have hbw2 : Below w.heap.size w w2 := HB0.out.grown hgrow2 (by simp <;> omega) (fun q hq => by cases hq)
  have HBW2 := Lib.hid hbw2
  have HR2 := Lib.hid (HR.out.keep hbw2)
  have bx := HBX.out.grown hgrow2 (by simp)
  have hby := HBY.out.grown hgrow2 (by simp)
  have x0 := bx.cell 0
  have x1 := bx.cell 1
  simp only [List.getElem?_toArray, List.getElem?_cons_zero, List.getElem?_cons_succ] at x0 x1
  have hxl := bx.lt
  have HBX2 := Lib.hid bx
  have HBY2 := Lib.hid hby
  clear hbw2 hown2 hgrow2 bx hby
  go_wp2_with (refine wpList_copy_full rfl _ _ _ _ rfl 47 4 Tryd.underlying31 (by kernel_rfl) (w.heap.size + 1 + 1) n _ rfl rfl _ w.heap.size HOW2.out xs HR2.out HX.out HL.out HO.out (by omega) ?_)
  intro w3 hown3 hmod3 hsz3
  have HOW3 := Lib.hid hown3
  have hbw3 := Mod.own HBW2.out hmod3 (by omega)
  have bx := HBX2.out.mod hmod3 (by omega)
  have hby := HBY2.out.mod hmod3 (by omega)
  have x0 := bx.cell 0
  simp only [List.getElem?_toArray, List.getElem?_cons_zero] at x0
  have hxl := bx.lt
  have HBW3 := Lib.hid hbw3
  have HBY3 := Lib.hid hby
  clear hown3 hmod3 hsz3 bx hby hbw3
  go_wp2_with (refine wpList_store_blk rfl 33 _ _ rfl (w.heap.size + 1) 33 _ _ rfl rfl HBY3.out (by kernel_rfl) rfl (by simp [Value.oneCell']) ?_)
  intro w4 hb4 hm4 hz4
  have r0 := hb4.cell 0
  have r1 := hb4.cell 1
  have HB4 := Lib.hid (Mod.own HBW3.out hm4 (by omega))
  have HO4 := Lib.hid (hm4.ownsRow HOW3.out (by intro q hq; simp [Value.ownBlock] at hq; omega))
  simp only [List.getElem?_toArray, List.getElem?_cons_zero, List.getElem?_cons_succ] at r0 r1
  clear hb4 hm4 hz4
  go_wp2_with fail
  exact bodyPost_ret (v := .agg #[.string rel, .slice (some ⟨w.heap.size + 1 + 1, 0, none⟩) n n]) (by simp [results, Tryd.results19, go_sem, *]) rfl ⟨_, rfl, HO4.out, HB4.out⟩

/-- Are the rows equal? -/
def sameV (a b : List Vl) : Bool := decide (a = b)
set_option maxHeartbeats 4000000 in
set_option maxRecDepth 100000 in
theorem sameRow_any (w : World) (va vb : Value) (a b : List Vl) (ha : RowAt w va 3 (a.map Vl.cells)) (hb : RowAt w vb 3 (b.map Vl.cells)) :
    Calls Tryd.prog 21 #[va, vb] w fun e w' => e = .returned (.bool (sameV a b)) ∧ Below w.heap.size w w' := by
  have hneq : ∀ (k n k' n' : Int) (t t' : List UInt8) (w : World), (binOp .neq 45 (.agg #[.int .i64 k, .int .i64 n, .string ⟨t.toArray⟩]) (.agg #[.int .i64 k', .int .i64 n', .string ⟨t'.toArray⟩])).run Tryd.prog w = .ok (.bool (!vlB k n t k' n' t')) w := fun k n k' n' t t' w => neq_value ⟨k, n, t⟩ ⟨k', n', t'⟩ w
  obtain ⟨aa, ac, rfl, hac, ham⟩ := ha.form
  obtain ⟨ba, bc, rfl, hbc, hbm⟩ := hb.form
  have hla := ha.len
  have hlb := hb.len
  unfold maxLen at ham hbm
  have HA := Lib.hid ha
  have HB := Lib.hid hb
  simp only [List.length_map] at hac hbc hla hlb ⊢
  generalize hN : a.length = n at *
  generalize hM : b.length = m at *
  have HN := Lib.hid hN
  have HM := Lib.hid hM
  clear ha hb hN hM
  by_cases hnm : n = m
  · subst hnm
    go_enter Tryd.func21, Tryd.ntmps21
    go_wp2_with fail
    go_loopw [5] (fun i wr => ∃ k : Nat, k ≤ n ∧ i = .int .i64 k ∧ Hid (∀ j, j < k → a[j]? = b[j]?) ∧ Hid (Below w.heap.size w wr)) (fun i _ => n - (intOf i).toNat)
    case atStart => exact ⟨0, Nat.zero_le _, rfl, Lib.hid (fun j hj => by omega), Lib.hid (Below.refl _ _)⟩
    case round =>
      obtain ⟨k, hk, rfl, HE, BW⟩ := hrel
      by_cases hlt : k < n
      · obtain ⟨t, ht⟩ : ∃ t, a[k]? = some t := ⟨a[k]'(by rw [HN.out]; exact hlt), List.getElem?_eq_getElem (by rw [HN.out]; exact hlt)⟩
        obtain ⟨u, hu⟩ : ∃ u, b[k]? = some u := ⟨b[k]'(by rw [HM.out]; exact hlt), List.getElem?_eq_getElem (by rw [HM.out]; exact hlt)⟩
        obtain ⟨g1, o1, c1, hv1, _, _, hgl1, k1⟩ := (HA.out.keep BW.out).get (i := k) (x := t.cells) (by simp [ht])
        obtain ⟨g2, o2, c2, hv2, _, _, hgl2, k2⟩ := (HB.out.keep BW.out).get (i := k) (x := u.cells) (by simp [hu])
        simp only [List.length_map, HN.out, HM.out, Value.slice.injEq, true_and] at hv1 hv2
        obtain ⟨rfl, rfl⟩ := hv1
        obtain ⟨rfl, rfl⟩ := hv2
        have p0 := k1 0 _ rfl
        have p1 := k1 1 _ rfl
        have p2 := k1 2 _ rfl
        have r0 := k2 0 _ rfl
        have r1 := k2 1 _ rfl
        have r2 := k2 2 _ rfl
        simp only [Nat.add_zero] at p0 r0
        have hd : decide ((k : Int) < 0) = false := by simp
        have hd2 : decide ((n : Int) ≤ (k : Int)) = false := by simp; omega
        have HT := Lib.hid ht
        have HU := Lib.hid hu
        clear k1 k2 ht hu
        by_cases hq : t = u
        · have hvb : vlB t.k t.n t.t u.k u.n u.t = true := decide_eq_true hq
          have HQ := Lib.hid hq
          clear hq
          go_wp2_with fail
          go_quiet (fail)
          go_wp2_with fail
          go_roundw
          case rel =>
            refine ⟨k + 1, by omega, by go_num, Lib.hid ?_, Lib.hid (bdrewN BW.out _)⟩
            intro j hj
            rcases Nat.lt_or_eq_of_le (Nat.le_of_lt_succ hj) with h | rfl
            · exact HE.out j h
            · rw [HT.out, HU.out, HQ.out]
          case measure => simp [intOf]; omega
        · have hvb : vlB t.k t.n t.t u.k u.n u.t = false := decide_eq_false hq
          have hs : sameV a b = false := by
            unfold sameV
            rw [decide_eq_false]
            intro e
            have := HT.out
            rw [e, HU.out] at this
            simp at this
            exact hq this.symm
          have HS := Lib.hid hs
          clear hq hs
          go_wp2_with fail
          go_quiet (fail)
          go_wp2_with fail
          go_ret
          exact ⟨by rw [HS.out]; rfl, bdrewN BW.out _⟩
      · obtain rfl : k = n := by omega
        have hs : sameV a b = true := by
          unfold sameV
          rw [decide_eq_true]
          apply List.ext_getElem?
          intro j
          rcases Nat.lt_or_ge j k with h | h
          · exact HE.out j h
          · rw [List.getElem?_eq_none (by rw [HN.out]; exact h), List.getElem?_eq_none (by rw [HM.out]; exact h)]
        have HS := Lib.hid hs
        clear hs
        go_wp2_with fail
        go_ret
        exact ⟨by rw [HS.out]; rfl, BW.out⟩
  · have hs : sameV a b = false := by
      unfold sameV
      rw [decide_eq_false]
      intro e
      rw [e, HM.out] at HN
      exact hnm HN.out.symm
    have hd : ((n : Int) != (m : Int)) = true := by simpa using fun e => hnm (by omega)
    have HS := Lib.hid hs
    clear hs
    go_enter Tryd.func21, Tryd.ntmps21
    go_wp2_with fail
    go_ret
    exact ⟨by rw [HS.out]; rfl, Below.refl _ _⟩
end Go.Proofs.YtgilflkgibfjgaaDoor
