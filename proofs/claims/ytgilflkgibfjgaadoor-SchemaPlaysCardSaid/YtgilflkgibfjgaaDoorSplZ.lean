/- SchemaPlays, walked. -/
import Derived.Test.YtgilflkgibfjgaaDoorSy
import Derived.Test.YtgilflkgibfjgaaDoorCk
import Derived.Deep.RegionLaw
import Derived.Deep.RegionHeld3
import Derived.Deep.MidRow
import Derived.Deep.CutRange
import Derived.BigQuiet
namespace Go.Proofs.YtgilflkgibfjgaaDoor
open Go.RowKit
set_option linter.unusedVariables false

theorem ownVlS {w : World} {B : Nat} {v : Value} {vs : List Vl} (h : w.ownsRow B 45 3 v vs.length (vs.map Vl.cells).flatten) (hn : vs.length ≤ 4398046511104) : RowAt w v 3 (vs.map Vl.cells) :=
  RowAt.ofOwn h (by simp) (vl_len _) (by simp; omega)
/-- Two cells of a call's box. -/
def KS (p : Nat) (nm rv : Value) (W0 W : World) : Prop := W.cell? ⟨p, 3, none⟩ = some nm ∧ W.cell? ⟨p, 4, none⟩ = some rv ∧ Below W0.heap.size W0 W
theorem KS.step {p : Nat} {nm rv : Value} {W0 W W' : World} (h : KS p nm rv W0 W) (hp : p < W0.heap.size) (hb : Below W.heap.size W W') : KS p nm rv W0 W' := by
  obtain ⟨a0, a1, a2⟩ := h
  have hz := a2.size
  exact ⟨(hb.cell (p := ⟨p, 3, none⟩) (by simp only; omega)).trans a0, (hb.cell (p := ⟨p, 4, none⟩) (by simp only; omega)).trans a1, a2.trans (hb.mono hz)⟩
theorem Wrt.lt {F : Nat → Prop} {w : World} {sz n : Nat} {a : Option Addr} (h : Wrt F w sz a n) : Wrt (fun g => F g ∧ g < w.heap.size) w sz a n := by
  rcases h with h | ⟨g, rfl, hF, hl, ht⟩
  · exact .inl h
  · exact .inr ⟨g, rfl, ⟨hF, hl⟩, hl, ht⟩

set_option maxHeartbeats 32000000 in
set_option maxRecDepth 100000 in
theorem splays_card (m : Int) (v : Value) (w : World) (hm1 : -9223372036854775808 ≤ m) (hm2 : m ≤ 9223372036854775807) {ops : List Opn} (h : OpsAt w v ops) (hz : ∀ a ∈ ops, a.r.name.length ≤ 140737488351232 ∧ ∀ x ∈ a.r.cols, x.x.length ≤ 140737488351232) (hn : ops.length ≤ 1599289640354) (hg : Glob w) :
    Calls Tryd.prog 11 #[.int .i64 m, v] w fun e w' => e = .returned (.bool true) ∧ Below w.heap.size w w' := by
  have hnot : ∀ (x : Bool) (w : World), (Op.unary .not (.bool x)).run Tryd.prog w = .ok (.bool (!x)) w := fun _ _ => rfl
  obtain ⟨oa, oc, rfl, _, ocm⟩ := h.form
  unfold maxLen at ocm
  have HOP := Lib.hid h
  have HZ := Lib.hid hz
  have HG := Lib.hid hg
  clear h hz hg
  generalize hN : ops.length = n at *
  have HN := Lib.hid hN
  clear hN
  by_cases hok : 1 ≤ m ∧ m ≤ 8
  · obtain ⟨h1, h8⟩ := hok
    have d1 : decide (m < 1) = false := by simp; omega
    have d2 : decide (8 < m) = false := by simp; omega
    have HI0 := Lib.hid (SPI.start w m h1)
    go_enter Tryd.func11, Tryd.ntmps11
    go_wp2_with fail
    refine (new_ok m _ h1 h8).mono ?_
    rintro e w1 ⟨rfl, rfl⟩
    go_wp2_with fail
    go_loopw [7, 50] (fun s i wr => ∃ (k : Nat) (d : List Rln) (da : Option Addr) (dc dn : Nat), k ≤ n ∧ s = .slice da dn dc ∧ i = .int .i64 k ∧ Hid (d.length = dn) ∧ Hid (SPI w wr w.heap.size m (.slice da dn dc) d)) (fun _ i _ => n - (intOf i).toNat)
    case atStart => exact ⟨0, [], none, 0, 0, Nat.zero_le _, rfl, rfl, Lib.hid rfl, HI0⟩
    case round =>
      obtain ⟨k, d, da, dc, dn, hk, rfl, rfl, HDN, HI⟩ := hrel
      obtain ⟨wo, rfl⟩ : ∃ wo : World, wo = wr := ⟨_, rfl⟩
      by_cases hlt : k < n
      · obtain ⟨o, ho⟩ : ∃ o, ops[k]? = some o := ⟨ops[k]'(by rw [HN.out]; exact hlt), List.getElem?_eq_getElem (by rw [HN.out]; exact hlt)⟩
        have hzo := HZ.out o (List.mem_of_getElem? ho)
        obtain ⟨vb, vo, vcap, cv, rv, hv, _, _, hvl, q0, q1, q2, q3, q4, hcs, hcl, hrow, hrl⟩ := HOP.out.get ho
        rw [HN.out] at hv
        simp only [Value.slice.injEq, true_and] at hv
        obtain ⟨rfl, rfl⟩ := hv
        obtain ⟨ca, cc, rfl, _, _⟩ := hcs.form
        obtain ⟨ra, rc, rfl, _, _⟩ := hrow.form
        have hbw := HI.out.below
        have hws := hbw.size
        have x0 := (hbw.cell (p := ⟨vb, vo + k * 5, none⟩) hvl).trans q0
        have x1 := (hbw.cell (p := ⟨vb, vo + k * 5 + 1, none⟩) hvl).trans q1
        have x2 := (hbw.cell (p := ⟨vb, vo + k * 5 + 2, none⟩) hvl).trans q2
        have x3 := (hbw.cell (p := ⟨vb, vo + k * 5 + 3, none⟩) hvl).trans q3
        have x4 := (hbw.cell (p := ⟨vb, vo + k * 5 + 4, none⟩) hvl).trans q4
        have xl : vb < wo.heap.size := Nat.lt_of_lt_of_le hvl hws
        have hd1 : decide ((k : Int) < 0) = false := by simp
        have hd2 : decide ((n : Int) ≤ (k : Int)) = false := by simp; omega
        simp only [List.length_map] at x4 hrow
        have HCS := Lib.hid (fun W (hW : Below w.heap.size w W) => ColsAt.keep hcs hW)
        have HRW := Lib.hid (fun W (hW : Below w.heap.size w W) => RowAt.keep hrow hW)
        have HZO := Lib.hid hzo
        have HCL := Lib.hid hcl
        have HRL := Lib.hid hrl
        clear ho hzo q0 q1 q2 q3 q4 hcs hrow hcl hrl
        generalize hcn : o.r.cols.length = cn at *
        generalize hrn : o.row.length = rn at *
        have HCN := Lib.hid hcn
        have HRN := Lib.hid hrn
        have hcl : cn ≤ 5864062014634 := HCL.out
        clear hcn hrn
        have bx := Blk.new wo 83 #[.int .i64 o.k, .string ⟨o.r.name.toArray⟩, .slice ca cn cc, .string ⟨o.nm.toArray⟩, .slice ra rn rc]
        have hbx : Below wo.heap.size wo (wo.alloc (.cells #[.int .i64 o.k, .string ⟨o.r.name.toArray⟩, .slice ca cn cc, .string ⟨o.nm.toArray⟩, .slice ra rn rc] 83)) := balloc (Below.refl _ _) _
        have hsa : (wo.alloc (.cells #[.int .i64 o.k, .string ⟨o.r.name.toArray⟩, .slice ca cn cc, .string ⟨o.nm.toArray⟩, .slice ra rn rc] 83)).heap.size = wo.heap.size + 1 := by simp
        obtain ⟨Wa, hWa⟩ : ∃ Wa, wo.alloc (.cells #[.int .i64 o.k, .string ⟨o.r.name.toArray⟩, .slice ca cn cc, .string ⟨o.nm.toArray⟩, .slice ra rn rc] 83) = Wa := ⟨_, rfl⟩
        rw [hWa] at bx hbx hsa
        have HWA := Lib.hid hWa
        have HBX := Lib.hid bx
        have HBA := Lib.hid hbx
        have HSA := Lib.hid hsa
        have HWW := Lib.hid (hbw.trans (hbx.mono hws))
        obtain ⟨ok, hok⟩ : ∃ ok, o.k = ok := ⟨_, rfl⟩
        rw [hok] at bx HBX x0 HWA
        have b0 := bx.cell 0
        have b1 := bx.cell 1
        have b2 := bx.cell 2
        have b3 := bx.cell 3
        have b4 := bx.cell 4
        have bl := bx.lt
        simp only [List.getElem?_toArray, List.getElem?_cons_zero, List.getElem?_cons_succ] at b0 b1 b2 b3 b4
        clear hbw hWa bx hbx hsa hok
        go_upto_region 10 with fail
        rw [HWA.out]
        clear x0 x1 x2 x3 x4 xl hvl
        by_cases e1 : ok = 1
        · have k1 : (ok == 1) = true := by simpa using e1
          clear e1
          obtain ⟨Q, Q2, i1, i2, i3, i4, i5, i6, i7⟩ := HI.out
          have HCP := Lib.hid (copyRel_any Wa ⟨o.r.name.toArray⟩ (.slice ca cn cc) o.r.cols (HCS.out Wa HWW.out) (by rw [HCN.out]; exact hcl))
          rw [HCN.out] at HCP
          have I1 := Lib.hid i1
          have I2 := Lib.hid i2
          have I3 := Lib.hid i3
          have I4 := Lib.hid i4
          have I5 := Lib.hid i5
          have I6 := Lib.hid i6
          have hbl : w.heap.size < wo.heap.size := i1.lt
          clear i1 i2 i3 i4 i5 i6
          go_wp2_with fail
          refine HCP.out.mono ?_
          rintro e w5 ⟨u5, rfl, hown5, hb5⟩
          obtain ⟨ua, uc, rfl⟩ := own_sl hown5
          have hwr : Wrt (fun g => Wa.heap.size ≤ g ∧ g < w5.heap.size) w5 2 ua cn := Wrt.ofOwn hown5 (by rw [cols_flat, flat2_len, HCN.out]) (fun g _ hl hB => ⟨hB, hl⟩)
          have hbn : Below w5.heap.size w5 (w5.alloc (.cells #[.string ⟨o.r.name.toArray⟩, .slice ua cn uc] 64)) := balloc (Below.refl _ _) _
          have bn := Blk.new w5 64 #[.string ⟨o.r.name.toArray⟩, .slice ua cn uc]
          have hsb : (w5.alloc (.cells #[.string ⟨o.r.name.toArray⟩, .slice ua cn uc] 64)).heap.size = w5.heap.size + 1 := by simp
          obtain ⟨Wb, hWb⟩ : ∃ Wb, w5.alloc (.cells #[.string ⟨o.r.name.toArray⟩, .slice ua cn uc] 64) = Wb := ⟨_, rfl⟩
          rw [hWb] at hbn bn hsb
          have hab := bt2 hb5 hbn
          have hob := bt2 HBA.out hab
          have huc : ColsAt w5 (.slice ua cn uc) o.r.cols := ColsOwn.at (B := Wa.heap.size) (by
            show World.ownsRow _ _ _ _ _ _ _
            rw [HCN.out, ← cols_flat]
            exact hown5) (by rw [HCN.out]; omega)
          have bxb := HBX.out.below hab HBX.out.lt
          have y0 := bn.cell 0
          have y1 := bn.cell 1
          have yl := bn.lt
          simp only [List.getElem?_toArray, List.getElem?_cons_zero, List.getElem?_cons_succ] at y0 y1
          have HWB := Lib.hid hWb
          have HBN := Lib.hid bn
          have HBXB := Lib.hid bxb
          have HOB := Lib.hid hob
          have HSB := Lib.hid hsb
          have HWR := Lib.hid hwr
          have HOW5 := Lib.hid hown5
          have hs5 := hb5.size
          have hsbw := hbn.size
          have HNB := Lib.hid hbn
          have HB5 := Lib.hid hb5
          have HAD := Lib.hid (addR_any Wb w.heap.size m d (.slice ua cn uc) o.r (I1.out.keep hob) h8 i7 (fun hq => (I3.out _ hq).2.2.1 rfl) (huc.keep hbn) (by rw [HCN.out]; exact hcl) HZO.out.1 HZO.out.2)
          clear hown5 hwr hbn bn hsb hWb hab hob huc bxb hb5 HCP b0 b1 b2 b3 b4 bl
          go_upto_region 13 with fail
          rw [HWB.out]
          go_wp2_with fail
          refine HAD.out.mono ?_
          rintro e w6 ⟨rfl, hs6, hm6⟩
          have hnF : ∀ g, wo.heap.size ≤ g → ¬ (g = w.heap.size ∨ Q g) := fun g hg hf => by
            rcases hf with rfl | hf
            · omega
            · have := (I3.out g hf).2.1
              omega
          have HNF := Lib.hid hnF
          have bx6 := HBXB.out.modS hm6 (hnF _ (Nat.le_refl _))
          have bn6 := HBN.out.modS hm6 (hnF _ (by have := HSA.out; omega))
          have c1 := bx6.cell 1
          have c2 := bx6.cell 2
          have cl := bx6.lt
          have n0 := bn6.cell 0
          have n1 := bn6.cell 1
          have nl := bn6.lt
          simp only [List.getElem?_toArray, List.getElem?_cons_zero, List.getElem?_cons_succ] at c1 c2 n0 n1
          have HBX6 := Lib.hid bx6
          have HBN6 := Lib.hid bn6
          have HS6 := Lib.hid hs6
          have HM6 := Lib.hid hm6
          have hsm : SmallD d := by
            obtain ⟨_, _, _, h3⟩ := I1.out
            exact h3
          have hww6 : Below w.heap.size w w6 := (HWW.out.trans ((bt2 HB5.out HNB.out).mono (by have := HSA.out; omega))).trans (hm6.below (by have := HSA.out; omega) (fun i hi => by
            rcases hi with rfl | hi
            · exact Nat.le_refl _
            · exact (I3.out i hi).1))
          have HW6 := Lib.hid hww6
          have hd6 : RelsAt w6 (.slice da dn dc) d := hsm.at ((I2.out.keep HOB.out).mod hm6 (fun q hq hf => by
            rcases hf with rfl | hf
            · exact (I4.out _ hq).2 rfl
            · exact (I3.out q hf).2.2.2 hq))
          have hra := (refAddR_any w6 (.slice da dn dc) m d (.slice ca cn cc) o.r hd6 hsm.1 (HCS.out _ hww6) (by rw [HCN.out]; exact hcl) HZO.out.1 HZO.out.2).mono (fun e w' h => h.form HDN.out)
          have HRA := Lib.hid hra
          clear bx6 bn6 hs6 hm6 hsm hww6 hd6 hra hnF HAD y0 y1 yl
          go_wp2_with fail
          refine HRA.out.mono ?_
          rintro e w7 ⟨da', dc', dn', rfl, hdl, hrp, hb7⟩
          have hne : (addE m d o.r != addE m d o.r) = false := by simp
          have bx7 := HBX6.out.below hb7 HBX6.out.lt
          have bn7 := HBN6.out.below hb7 HBN6.out.lt
          have c1 := bx7.cell 1
          have c2 := bx7.cell 2
          have cl := bx7.lt
          have n0 := bn7.cell 0
          have n1 := bn7.cell 1
          have nl := bn7.lt
          simp only [List.getElem?_toArray, List.getElem?_cons_zero, List.getElem?_cons_succ] at c1 c2 n0 n1
          have hin7 : ColsAt w7 (.slice ua cn uc) o.r.cols := by
            have o5 : w7.ownsRow Wa.heap.size 72 2 (.slice ua cn uc) cn (o.r.cols.map Col.cells).flatten :=
              (Mod.ofBelow (F := fun _ => False) hb7).ownsRow (HM6.out.ownsRow ((Mod.ofBelow (F := fun _ => False) HNB.out).ownsRow HOW5.out (fun _ _ f => f)) (fun q hq hf => HNF.out q (by
                have := (World.ownsRow.lt HOW5.out q hq).1
                have := HSA.out
                omega) hf)) (fun _ _ f => f)
            refine ColsOwn.at (B := Wa.heap.size) ?_ (by rw [HCN.out]; omega)
            show World.ownsRow _ _ _ _ _ _ _
            rw [HCN.out, ← cols_flat]
            exact o5
          have hww7 : Below w.heap.size w w7 := HW6.out.trans (hb7.mono HW6.out.size)
          have HSR := Lib.hid (sameRel_any w7 ⟨o.r.name.toArray⟩ (.slice ua cn uc) (.slice ca cn cc) o.r.cols hin7 (HCS.out _ hww7))
          have hwr7 : Wrt (fun g => Wa.heap.size ≤ g ∧ g < w5.heap.size) w7 2 ua cn := (((HWR.out.mod (Mod.ofBelow (F := fun _ => False) HNB.out) (fun _ _ f => f)).mod HM6.out (fun q hq hf => HNF.out q (by have := HSA.out; omega) hf))).mod (Mod.ofBelow (F := fun _ => False) hb7) (fun _ _ f => f)
          have HWR7 := Lib.hid hwr7
          have HBN7 := Lib.hid bn7
          have HB7 := Lib.hid hb7
          have HDL := Lib.hid hdl
          have HRP := Lib.hid hrp
          clear bx7 bn7 hin7 hww7 hwr7 hdl hrp hb7 HRA HBX6 HBN6 HOW5
          go_wp2_with fail
          refine HSR.out.mono ?_
          rintro e w8 ⟨rfl, hb8⟩
          have bn8 := HBN7.out.below hb8 HBN7.out.lt
          have n1 := bn8.cell 1
          have nl := bn8.lt
          simp only [List.getElem?_toArray, List.getElem?_cons_zero, List.getElem?_cons_succ] at n1
          have HBN8 := Lib.hid bn8
          have HWR8 := Lib.hid (HWR7.out.mod (Mod.ofBelow (F := fun _ => False) hb8) (fun _ _ f => f))
          have HB8 := Lib.hid hb8
          clear bn8 hb8 c1 c2 cl n0 HSR hne
          go_wp2_with fail
          go_loopw [85] (fun i wr => ∃ y : Nat, y ≤ cn ∧ i = .int .i64 y ∧ Hid (Wrt (fun g => Wa.heap.size ≤ g ∧ g < w5.heap.size) wr 2 ua cn) ∧ Hid (Mod (fun g => Wa.heap.size ≤ g ∧ g < w5.heap.size) w8 wr)) (fun i _ => cn - (intOf i).toNat)
          case atStart => exact ⟨0, Nat.zero_le _, rfl, HWR8, Lib.hid (Mod.refl _ _)⟩
          case round =>
            obtain ⟨y, hy, rfl, HY, HMY⟩ := hrel
            obtain ⟨wy, rfl⟩ : ∃ wy : World, wy = wr := ⟨_, rfl⟩
            have bny := HBN8.out.modS HMY.out (by omega)
            have r1 := bny.cell 1
            have rl := bny.lt
            simp only [List.getElem?_toArray, List.getElem?_cons_zero, List.getElem?_cons_succ] at r1
            clear bny n1 nl
            by_cases hyl : y < cn
            · obtain ⟨q, rfl, hqf, hql, hqa⟩ := HY.out.at_ (by omega)
              have hth : wy.there q (y * 2) 2 := fun z hz => by
                obtain ⟨⟨u2, hu2⟩, hf2⟩ := hqa (y * 2 + z) (by omega)
                exact ⟨by rw [hu2]; rfl, hf2⟩
              have HTH := Lib.hid hth
              have HQF := Lib.hid hqf
              have he1 : decide ((y : Int) < 0) = false := by simp
              have he2 : decide ((cn : Int) ≤ (y : Int)) = false := by simp; omega
              clear hth hqa hqf
              go_wp2_with (refine wpList_store_mid rfl 72 _ _ rfl _ _ _ rfl rfl ?ht (by kernel_rfl) (by simp [Value.oneCell']) ?_)
              case ht => exact HTH.out
              go_wp2_with fail
              go_roundw
              case rel => exact ⟨y + 1, by omega, by go_num, Lib.hid (HY.out.set _ _ _), Lib.hid (HMY.out.trans (mod_setCellsQ (F := fun g => Wa.heap.size ≤ g ∧ g < w5.heap.size) HQF.out _ _ wy) (fun _ _ f => f))⟩
              case measure => simp [intOf]; omega
            · obtain rfl : y = cn := by omega
              have hend : SPI w wy w.heap.size m (.slice da' dn' dc') (addL m d o.r) := SPI.add I1.out I2.out I3.out I4.out I5.out I6.out i7 HOB.out HS6.out HM6.out HRP.out HB7.out
                ((Mod.ofBelow (F := fun k => wo.heap.size ≤ k ∧ k < Wb.heap.size) HB8.out).trans HMY.out (fun i _ hi => ⟨by have := HSA.out; omega, by omega⟩))
              have HEND := Lib.hid hend
              clear hend r1 rl
              go_wp2_with fail
              go_roundw
              case rel => exact ⟨k + 1, _, _, _, _, by omega, rfl, by go_num, HDL, HEND⟩
              case measure => simp [intOf]; omega
        · have k1 : (ok == 1) = false := by simpa using e1
          clear e1
          by_cases e2 : ok = 2
          · have k2 : (ok == 2) = true := by simpa using e2
            clear e2
            obtain ⟨Q, hsch⟩ := (HI.out.keep HBA.out).sch
            have HFD := Lib.hid (findU_any Wa w.heap.size m d o.nm hsch)
            have HDA := Lib.hid (HI.out.rels.keep HBA.out)
            clear hsch
            go_wp2_with fail
            refine HFD.out.mono ?_
            rintro e w5 ⟨fb, nm5, ua, un, uc, rfl, hwr, hun, hP, hb5⟩
            have hwr2 := hwr.lt
            have hbn : Below w5.heap.size w5 (w5.alloc (.cells #[.string nm5, .slice ua un uc] 64)) := balloc (Below.refl _ _) _
            have bn := Blk.new w5 64 #[.string nm5, .slice ua un uc]
            obtain ⟨Wb, hWb⟩ : ∃ Wb, w5.alloc (.cells #[.string nm5, .slice ua un uc] 64) = Wb := ⟨_, rfl⟩
            rw [hWb] at hbn bn
            have hab := bt2 hb5 hbn
            have bxb := HBX.out.below hab HBX.out.lt
            have c3 := bxb.cell 3
            have cl := bxb.lt
            simp only [List.getElem?_toArray, List.getElem?_cons_zero, List.getElem?_cons_succ] at c3
            have hpl := refPlace_any Wb (.slice da dn dc) d ⟨o.nm.toArray⟩ (HDA.out.keep hab)
            rw [show (⟨o.nm.toArray⟩ : ByteArray).data.toList = o.nm by simp] at hpl
            obtain ⟨pl, hpv⟩ : ∃ pl, plI d o.nm = pl := ⟨_, rfl⟩
            rw [hpv] at hpl
            simp only [hpv] at hP
            have HPL := Lib.hid hpl
            have HWB := Lib.hid hWb
            have HBN := Lib.hid bn
            have HAB := Lib.hid hab
            have HP := Lib.hid hP
            clear hpv
            have HNB := Lib.hid hbn
            have HWR := Lib.hid (hwr2.mod (Mod.ofBelow (F := fun _ => False) hbn) (fun _ _ f => f))
            clear hwr hwr2 hbn bn hWb hab bxb hpl hP hb5 HFD b0 b1 b2 b3 b4 bl
            go_upto_region 24 with fail
            rw [HWB.out]
            go_wp2_with fail
            refine HPL.out.mono ?_
            rintro e w6 ⟨rfl, hb6⟩
            have bn6 := HBN.out.below hb6 HBN.out.lt
            have n0 := bn6.cell 0
            have n1 := bn6.cell 1
            have nl := bn6.lt
            simp only [List.getElem?_toArray, List.getElem?_cons_zero, List.getElem?_cons_succ] at n0 n1
            have HBN6 := Lib.hid bn6
            have HB6 := Lib.hid hb6
            have HAB6 := Lib.hid (bt2 HAB.out hb6)
            have HWR6 := Lib.hid (HWR.out.mod (Mod.ofBelow (F := fun _ => False) hb6) (fun _ _ f => f))
            clear bn6 hb6 c3 cl HPL
            go_upto_region 25 with fail
            go_cut [137] from 107 to 136 (fun s wx => s = .bool false ∧ Hid (Below w6.heap.size w6 wx))
            case first =>
              rcases HP.out with ⟨rfl, rfl, rfl, rfl⟩ | ⟨rfl, kk, rr, rfl, hrr, rfl, hco⟩
              · go_quiet (fail)
                go_wp2_with fail
                go_meet
                exact ⟨rfl, Lib.hid (bdrewN (Below.refl _ _) _)⟩
              · obtain ⟨db, dof, dcap, dcv, hdv, _, _, hdl, g0, g1, hdc, hdcl⟩ := (HDA.out.keep HAB6.out).get hrr
                rw [HDN.out] at hdv
                simp only [Value.slice.injEq, true_and] at hdv
                obtain ⟨rfl, rfl⟩ := hdv
                obtain ⟨dca, dcc, rfl, _, _⟩ := hdc.form
                have hkl : kk < dn := by rw [← HDN.out]; exact (List.getElem?_eq_some_iff.1 hrr).1
                have hq1 : decide ((kk : Int) < 0) = false := by simp
                have hq2 : decide ((dn : Int) ≤ (kk : Int)) = false := by simp; omega
                have hq3 : decide (0 ≤ (kk : Int)) = true := by simp
                have hun2 : un = rr.cols.length := by
                  obtain ⟨_, _, hf, _, _⟩ := hco.form
                  simp only [Value.slice.injEq] at hf
                  exact hf.2.1
                subst hun2
                have HSR := Lib.hid (fun W (hW : Below w6.heap.size w6 W) => sameRel_any W ⟨rr.name.toArray⟩ (.slice ua rr.cols.length uc) (.slice dca rr.cols.length dcc) rr.cols (ColsAt.keep hco (bt2 HNB.out (bt2 HB6.out hW))) (ColsAt.keep hdc hW))
                clear hrr hdc hco
                -- found, by hand
                refine wp_region_any (by kernel_rfl) ?_
                try (change wpAny _ _ _ _ _ _ _ (World.drew _))
                refine wpAny_takeAt 0 107 (v := ?_) rfl (by kernel_rfl) (by kernel_rfl) (by kernel_rfl) (by kernel_rfl) (fun _ _ _ _ h => h) (by kernel_rfl) ?_ ?_
                rotate_left
                · intro w
                  go_simp
                  try with_reducible rfl
                simp only [List.setIfInBounds_toArray, List.set_cons_succ, List.set_cons_zero]
                refine wpAny_takeAt 1 108 (v := ?_) rfl (by kernel_rfl) (by kernel_rfl) (by kernel_rfl) (by kernel_rfl) (fun _ _ _ _ h => h) (by kernel_rfl) ?_ ?_
                rotate_left
                · intro w
                  go_simp
                  try with_reducible rfl
                simp only [List.setIfInBounds_toArray, List.set_cons_succ, List.set_cons_zero]
                refine wpAny_takeAt 2 109 (v := ?_) rfl (by kernel_rfl) (by kernel_rfl) (by kernel_rfl) (by kernel_rfl) (fun _ _ _ _ h => h) (by kernel_rfl) ?_ ?_
                rotate_left
                · intro w
                  go_simp
                  try with_reducible rfl
                simp only [List.setIfInBounds_toArray, List.set_cons_succ, List.set_cons_zero]
                refine wpAny_takeAt 3 110 (v := ?_) rfl (by kernel_rfl) (by kernel_rfl) (by kernel_rfl) (by kernel_rfl) (fun _ _ _ _ h => h) (by kernel_rfl) ?_ ?_
                rotate_left
                · intro w
                  go_simp
                  try with_reducible rfl
                simp only [List.setIfInBounds_toArray, List.set_cons_succ, List.set_cons_zero]
                refine wpAny_takeAt 4 111 (v := ?_) rfl (by kernel_rfl) (by kernel_rfl) (by kernel_rfl) (by kernel_rfl) (fun _ _ _ _ h => h) (by kernel_rfl) ?_ ?_
                rotate_left
                · intro w
                  go_simp
                  try with_reducible rfl
                simp only [List.setIfInBounds_toArray, List.set_cons_succ, List.set_cons_zero]
                refine wpAny_takeAt 5 112 (v := ?_) rfl (by kernel_rfl) (by kernel_rfl) (by kernel_rfl) (by kernel_rfl) (fun _ _ _ _ h => h) (by kernel_rfl) ?_ ?_
                rotate_left
                · intro w
                  go_simp
                  try with_reducible rfl
                simp only [List.setIfInBounds_toArray, List.set_cons_succ, List.set_cons_zero]
                refine wpAny_takeAt 6 113 (v := ?_) rfl (by kernel_rfl) (by kernel_rfl) (by kernel_rfl) (by kernel_rfl) (fun _ _ _ _ h => h) (by kernel_rfl) ?_ ?_
                rotate_left
                · intro w
                  go_simp
                  try with_reducible rfl
                simp only [List.setIfInBounds_toArray, List.set_cons_succ, List.set_cons_zero]
                refine wpAny_takeAt 8 115 (v := ?_) rfl (by kernel_rfl) (by kernel_rfl) (by kernel_rfl) (by kernel_rfl) (fun _ _ _ _ h => h) (by kernel_rfl) ?_ ?_
                rotate_left
                · intro w
                  go_simp
                  try with_reducible rfl
                simp only [List.setIfInBounds_toArray, List.set_cons_succ, List.set_cons_zero]
                refine wpAny_takeAt 9 116 (v := ?_) rfl (by kernel_rfl) (by kernel_rfl) (by kernel_rfl) (by kernel_rfl) (fun _ _ _ _ h => h) (by kernel_rfl) ?_ ?_
                rotate_left
                · intro w
                  go_simp
                  try with_reducible rfl
                simp only [List.setIfInBounds_toArray, List.set_cons_succ, List.set_cons_zero]
                refine wpAny_takeAt 10 117 (v := ?_) rfl (by kernel_rfl) (by kernel_rfl) (by kernel_rfl) (by kernel_rfl) (fun _ _ _ _ h => h) (by kernel_rfl) ?_ ?_
                rotate_left
                · intro w
                  go_simp
                  try with_reducible rfl
                simp only [List.setIfInBounds_toArray, List.set_cons_succ, List.set_cons_zero]
                refine wpAny_ready (rs := [7, 11]) (by kernel_rfl) (by simp) ?_
                refine AllReady.cons rfl (fun K hK => ?_) (AllReady.cons rfl (fun K hK => ?_) AllReady.nil)
                · go_simp
                  refine hK _ _ ?_
                  clear hK K
                  refine wpAny_ready (rs := [11]) (by kernel_rfl) (by simp) ?_
                  refine AllReady.cons rfl (fun K hK => ?_) AllReady.nil
                  go_simp
                  refine hK _ _ ?_
                  clear hK K
                  refine wpAny_ready (rs := [12]) (by kernel_rfl) (by simp) ?_
                  refine AllReady.cons rfl (fun K hK => ?_) AllReady.nil
                  go_simp
                  refine (HSR.out _ (bdrew (Below.refl _ _))).mono ?_
                  rintro e w7 ⟨rfl, hb7⟩
                  have HB7 := Lib.hid (bt2 (bdrew (Below.refl w6.heap.size w6)) hb7)
                  clear hb7
                  refine hK _ _ ?_
                  clear hK K
                  refine wpAny_takeAt 13 120 (v := ?_) rfl (by kernel_rfl) (by kernel_rfl) (by kernel_rfl) (by kernel_rfl) (fun _ _ _ _ h => h) (by kernel_rfl) ?_ ?_
                  rotate_left
                  · intro w
                    go_simp
                    try with_reducible rfl
                  simp only [List.setIfInBounds_toArray, List.set_cons_succ, List.set_cons_zero]
                  refine wpAny_takeAt 14 121 (v := ?_) rfl (by kernel_rfl) (by kernel_rfl) (by kernel_rfl) (by kernel_rfl) (fun _ _ _ _ h => h) (by kernel_rfl) ?_ ?_
                  rotate_left
                  · intro w
                    go_simp
                    try with_reducible rfl
                  simp only [List.setIfInBounds_toArray, List.set_cons_succ, List.set_cons_zero]
                  refine wpAny_takeAt 15 122 (v := ?_) rfl (by kernel_rfl) (by kernel_rfl) (by kernel_rfl) (by kernel_rfl) (fun _ _ _ _ h => h) (by kernel_rfl) ?_ ?_
                  rotate_left
                  · intro w
                    go_simp
                    try with_reducible rfl
                  simp only [List.setIfInBounds_toArray, List.set_cons_succ, List.set_cons_zero]
                  refine wpAny_takeAt 16 123 (v := ?_) rfl (by kernel_rfl) (by kernel_rfl) (by kernel_rfl) (by kernel_rfl) (fun _ _ _ _ h => h) (by kernel_rfl) ?_ ?_
                  rotate_left
                  · intro w
                    go_simp
                    try with_reducible rfl
                  simp only [List.setIfInBounds_toArray, List.set_cons_succ, List.set_cons_zero]
                  refine wpAny_takeAt 17 124 (v := ?_) rfl (by kernel_rfl) (by kernel_rfl) (by kernel_rfl) (by kernel_rfl) (fun _ _ _ _ h => h) (by kernel_rfl) ?_ ?_
                  rotate_left
                  · intro w
                    go_simp
                    try with_reducible rfl
                  simp only [List.setIfInBounds_toArray, List.set_cons_succ, List.set_cons_zero]
                  refine wpAny_takeAt 18 125 (v := ?_) rfl (by kernel_rfl) (by kernel_rfl) (by kernel_rfl) (by kernel_rfl) (fun _ _ _ _ h => h) (by kernel_rfl) ?_ ?_
                  rotate_left
                  · intro w
                    go_simp
                    try with_reducible rfl
                  simp only [List.setIfInBounds_toArray, List.set_cons_succ, List.set_cons_zero]
                  refine wpAny_takeAt 19 126 (v := ?_) rfl (by kernel_rfl) (by kernel_rfl) (by kernel_rfl) (by kernel_rfl) (fun _ _ _ _ h => h) (by kernel_rfl) ?_ ?_
                  rotate_left
                  · intro w
                    go_simp
                    try with_reducible rfl
                  simp only [List.setIfInBounds_toArray, List.set_cons_succ, List.set_cons_zero]
                  refine wpAny_skips [(20, 127), (21, 128), (22, 129), (23, 130), (24, 131), (25, 132), (26, 133), (27, 134), (28, 135)] 2 rfl (by kernel_rfl) (by kernel_rfl) (fun _ _ _ _ h => h) ?_
                  simp only [putAll, List.setIfInBounds_toArray, List.set_cons_succ, List.set_cons_zero]
                  refine wpAny_takeAt 29 136 (v := ?_) rfl (by kernel_rfl) (by kernel_rfl) (by kernel_rfl) (by kernel_rfl) (fun _ _ _ _ h => h) (by kernel_rfl) ?_ ?_
                  rotate_left
                  · intro w
                    go_simp
                    try with_reducible rfl
                  simp only [List.setIfInBounds_toArray, List.set_cons_succ, List.set_cons_zero]
                  refine wpAny_takeAt 30 137 (v := ?_) rfl (by kernel_rfl) (by kernel_rfl) (by kernel_rfl) (by kernel_rfl) (fun _ _ _ _ h => h) (by kernel_rfl) ?_ ?_
                  rotate_left
                  · intro w
                    go_simp
                    try with_reducible rfl
                  simp only [List.setIfInBounds_toArray, List.set_cons_succ, List.set_cons_zero]
                  refine wpAny_done (by kernel_rfl) ?_ _
                  go_wp2_with fail
                  go_meet
                  exact ⟨by first | rfl | simp, HB7⟩
                · go_simp
                  refine hK _ _ ?_
                  clear hK K
                  refine wpAny_ready (rs := [7]) (by kernel_rfl) (by simp) ?_
                  refine AllReady.cons rfl (fun K hK => ?_) AllReady.nil
                  go_simp
                  refine hK _ _ ?_
                  clear hK K
                  refine wpAny_ready (rs := [12]) (by kernel_rfl) (by simp) ?_
                  refine AllReady.cons rfl (fun K hK => ?_) AllReady.nil
                  go_simp
                  refine (HSR.out _ (bdrew (Below.refl _ _))).mono ?_
                  rintro e w7 ⟨rfl, hb7⟩
                  have HB7 := Lib.hid (bt2 (bdrew (Below.refl w6.heap.size w6)) hb7)
                  clear hb7
                  refine hK _ _ ?_
                  clear hK K
                  refine wpAny_takeAt 13 120 (v := ?_) rfl (by kernel_rfl) (by kernel_rfl) (by kernel_rfl) (by kernel_rfl) (fun _ _ _ _ h => h) (by kernel_rfl) ?_ ?_
                  rotate_left
                  · intro w
                    go_simp
                    try with_reducible rfl
                  simp only [List.setIfInBounds_toArray, List.set_cons_succ, List.set_cons_zero]
                  refine wpAny_takeAt 14 121 (v := ?_) rfl (by kernel_rfl) (by kernel_rfl) (by kernel_rfl) (by kernel_rfl) (fun _ _ _ _ h => h) (by kernel_rfl) ?_ ?_
                  rotate_left
                  · intro w
                    go_simp
                    try with_reducible rfl
                  simp only [List.setIfInBounds_toArray, List.set_cons_succ, List.set_cons_zero]
                  refine wpAny_takeAt 15 122 (v := ?_) rfl (by kernel_rfl) (by kernel_rfl) (by kernel_rfl) (by kernel_rfl) (fun _ _ _ _ h => h) (by kernel_rfl) ?_ ?_
                  rotate_left
                  · intro w
                    go_simp
                    try with_reducible rfl
                  simp only [List.setIfInBounds_toArray, List.set_cons_succ, List.set_cons_zero]
                  refine wpAny_takeAt 16 123 (v := ?_) rfl (by kernel_rfl) (by kernel_rfl) (by kernel_rfl) (by kernel_rfl) (fun _ _ _ _ h => h) (by kernel_rfl) ?_ ?_
                  rotate_left
                  · intro w
                    go_simp
                    try with_reducible rfl
                  simp only [List.setIfInBounds_toArray, List.set_cons_succ, List.set_cons_zero]
                  refine wpAny_takeAt 17 124 (v := ?_) rfl (by kernel_rfl) (by kernel_rfl) (by kernel_rfl) (by kernel_rfl) (fun _ _ _ _ h => h) (by kernel_rfl) ?_ ?_
                  rotate_left
                  · intro w
                    go_simp
                    try with_reducible rfl
                  simp only [List.setIfInBounds_toArray, List.set_cons_succ, List.set_cons_zero]
                  refine wpAny_takeAt 18 125 (v := ?_) rfl (by kernel_rfl) (by kernel_rfl) (by kernel_rfl) (by kernel_rfl) (fun _ _ _ _ h => h) (by kernel_rfl) ?_ ?_
                  rotate_left
                  · intro w
                    go_simp
                    try with_reducible rfl
                  simp only [List.setIfInBounds_toArray, List.set_cons_succ, List.set_cons_zero]
                  refine wpAny_takeAt 19 126 (v := ?_) rfl (by kernel_rfl) (by kernel_rfl) (by kernel_rfl) (by kernel_rfl) (fun _ _ _ _ h => h) (by kernel_rfl) ?_ ?_
                  rotate_left
                  · intro w
                    go_simp
                    try with_reducible rfl
                  simp only [List.setIfInBounds_toArray, List.set_cons_succ, List.set_cons_zero]
                  refine wpAny_skips [(20, 127), (21, 128), (22, 129), (23, 130), (24, 131), (25, 132), (26, 133), (27, 134), (28, 135)] 2 rfl (by kernel_rfl) (by kernel_rfl) (fun _ _ _ _ h => h) ?_
                  simp only [putAll, List.setIfInBounds_toArray, List.set_cons_succ, List.set_cons_zero]
                  refine wpAny_takeAt 29 136 (v := ?_) rfl (by kernel_rfl) (by kernel_rfl) (by kernel_rfl) (by kernel_rfl) (fun _ _ _ _ h => h) (by kernel_rfl) ?_ ?_
                  rotate_left
                  · intro w
                    go_simp
                    try with_reducible rfl
                  simp only [List.setIfInBounds_toArray, List.set_cons_succ, List.set_cons_zero]
                  refine wpAny_takeAt 30 137 (v := ?_) rfl (by kernel_rfl) (by kernel_rfl) (by kernel_rfl) (by kernel_rfl) (fun _ _ _ _ h => h) (by kernel_rfl) ?_ ?_
                  rotate_left
                  · intro w
                    go_simp
                    try with_reducible rfl
                  simp only [List.setIfInBounds_toArray, List.set_cons_succ, List.set_cons_zero]
                  refine wpAny_done (by kernel_rfl) ?_ _
                  go_wp2_with fail
                  go_meet
                  exact ⟨by first | rfl | simp, HB7⟩
            case rest =>
              obtain ⟨rfl, HBR⟩ := hcut
              obtain ⟨w7, rfl⟩ : ∃ w7 : World, w7 = wc := ⟨_, rfl⟩
              have bn7 := HBN6.out.below HBR.out HBN6.out.lt
              have n1 := bn7.cell 1
              have nl := bn7.lt
              simp only [List.getElem?_toArray, List.getElem?_cons_zero, List.getElem?_cons_succ] at n1
              have HBN7 := Lib.hid bn7
              have HWR7 := Lib.hid (HWR6.out.mod (Mod.ofBelow (F := fun _ => False) HBR.out) (fun _ _ f => f))
              have HO7 := Lib.hid (bt2 HBA.out (bt2 HAB6.out HBR.out))
              clear bn7 n0
              have hno := HO7.out.size
              go_wp2_with fail
              go_loopw [141] (fun i wr => ∃ y : Nat, y ≤ un ∧ i = .int .i64 y ∧ Hid (Wrt (fun g => Wa.heap.size ≤ g ∧ g < w5.heap.size) wr 2 ua un) ∧ Hid (Mod (fun g => Wa.heap.size ≤ g ∧ g < w5.heap.size) w7 wr)) (fun i _ => un - (intOf i).toNat)
              case atStart => exact ⟨0, Nat.zero_le _, rfl, HWR7, Lib.hid (Mod.refl _ _)⟩
              case round =>
                obtain ⟨y, hy, rfl, HY, HMY⟩ := hrel
                obtain ⟨wy, rfl⟩ : ∃ wy : World, wy = wr := ⟨_, rfl⟩
                have bny := HBN7.out.modS HMY.out (by omega)
                have r1 := bny.cell 1
                have rl := bny.lt
                simp only [List.getElem?_toArray, List.getElem?_cons_zero, List.getElem?_cons_succ] at r1
                clear bny n1 nl
                by_cases hyl : y < un
                · obtain ⟨q, rfl, hqf, hql, hqa⟩ := HY.out.at_ (by omega)
                  have hth : wy.there q (y * 2) 2 := fun z hz => by
                    obtain ⟨⟨u2, hu2⟩, hf2⟩ := hqa (y * 2 + z) (by omega)
                    exact ⟨by rw [hu2]; rfl, hf2⟩
                  have HTH := Lib.hid hth
                  have HQF := Lib.hid hqf
                  have he1 : decide ((y : Int) < 0) = false := by simp
                  have he2 : decide ((un : Int) ≤ (y : Int)) = false := by simp; omega
                  clear hth hqa hqf
                  go_wp2_with (refine wpList_store_mid rfl 72 _ _ rfl _ _ _ rfl rfl ?ht (by kernel_rfl) (by simp [Value.oneCell']) ?_)
                  case ht => exact HTH.out
                  go_wp2_with fail
                  go_roundw
                  case rel => exact ⟨y + 1, by omega, by go_num, Lib.hid (HY.out.set _ _ _), Lib.hid (HMY.out.trans (mod_setCellsQ (F := fun g => Wa.heap.size ≤ g ∧ g < w5.heap.size) HQF.out _ _ wy) (fun _ _ f => f))⟩
                  case measure => simp [intOf]; omega
                · obtain rfl : y = un := by omega
                  have hend : SPI w wy w.heap.size m (.slice da dn dc) d := HI.out.keep (HO7.out.trans (HMY.out.below hno (fun i hi => by have := HSA.out; omega)))
                  have HEND := Lib.hid hend
                  clear hend r1 rl
                  go_wp2_with fail
                  go_roundw
                  case rel => exact ⟨k + 1, _, _, _, _, by omega, rfl, by go_num, HDN, HEND⟩
                  case measure => simp [intOf]; omega
          · have k2 : (ok == 2) = false := by simpa using e2
            clear e2
            by_cases e3 : ok = 3
            · have k3 : (ok == 3) = true := by simpa using e3
              clear e3
              obtain ⟨Q, hsch⟩ := (HI.out.keep HBA.out).sch
              have HDA := Lib.hid (HI.out.rels.keep HBA.out)
              have hcr := fun W (hW : Below Wa.heap.size Wa W) => copyRow_any W (.slice ra rn rc) o.row (HRW.out W (HWW.out.trans (hW.mono HWW.out.size))) (by rw [HRN.out]; exact HRL.out)
              have hsf := fun W rv (hW : Below Wa.heap.size Wa W) (hr : RowAt W rv 3 (o.row.map Vl.cells)) => sfits_any W w.heap.size m d ⟨o.nm.toArray⟩ rv o.row (hsch.keep hW) hr
              have hrf := fun W (hW : Below Wa.heap.size Wa W) => refFits_any W (.slice da dn dc) (.slice ra rn rc) d ⟨o.nm.toArray⟩ o.row (HDA.out.keep hW) (HRW.out W (HWW.out.trans (hW.mono HWW.out.size)))
              simp only at hsf hrf
              obtain ⟨ft, hft⟩ : ∃ ft, fitD d o.nm o.row = ft := ⟨_, rfl⟩
              simp only [hft] at hsf hrf
              have HCR := Lib.hid hcr
              have HSF := Lib.hid hsf
              have HRF := Lib.hid hrf
              have hself : (ft != ft) = false := by simp
              clear hcr hsf hrf hft hsch
              go_wp2_with fail
              go_cut [165] from 152 to 164 (fun s wx => s = .bool false ∧ Hid (Below Wa.heap.size Wa wx))
              case first =>
                -- fits
                have hks : KS wo.heap.size (.string ⟨o.nm.toArray⟩) (.slice ra rn rc) Wa Wa := ⟨b3, b4, Below.refl _ _⟩
                have HC2 := Lib.hid (fun W (h : KS wo.heap.size (.string ⟨o.nm.toArray⟩) (.slice ra rn rc) Wa W) => (HCR.out W h.2.2).mono (fun e w' hh => (by
                  obtain ⟨v5, rfl, hown, hb⟩ := hh
                  have hr := ownVlS hown (by rw [HRN.out]; exact HRL.out)
                  obtain ⟨va, vc, rfl⟩ := own_sl hown
                  rw [HRN.out] at hr ⊢
                  exact ⟨va, vc, rfl, Lib.hid hr, h.step bl hb⟩ : ∃ va vc, e = .returned (.slice va rn vc) ∧ Hid (RowAt w' (.slice va rn vc) 3 (o.row.map Vl.cells)) ∧ KS wo.heap.size (.string ⟨o.nm.toArray⟩) (.slice ra rn rc) Wa w')))
                have HF2 := Lib.hid (fun W rv (hr : RowAt W rv 3 (o.row.map Vl.cells)) (h : KS wo.heap.size (.string ⟨o.nm.toArray⟩) (.slice ra rn rc) Wa W) => (HSF.out W rv h.2.2 hr).mono (fun e w' hh => (And.intro hh.1 (h.step bl hh.2) : e = .returned (.int .i64 ft) ∧ KS wo.heap.size (.string ⟨o.nm.toArray⟩) (.slice ra rn rc) Wa w')))
                have HR2 := Lib.hid (fun W (h : KS wo.heap.size (.string ⟨o.nm.toArray⟩) (.slice ra rn rc) Wa W) => (HRF.out W h.2.2).mono (fun e w' hh => (And.intro hh.1 (h.step bl hh.2) : e = .returned (.int .i64 ft) ∧ KS wo.heap.size (.string ⟨o.nm.toArray⟩) (.slice ra rn rc) Wa w')))
                have hbW := Below.refl Wa.heap.size Wa
                unfold KS at HC2 HF2 HR2 hks
                clear hks
                go_region_held3 (fun w' => w'.cell? ⟨wo.heap.size, 3, none⟩ = some (.string ⟨o.nm.toArray⟩) ∧ w'.cell? ⟨wo.heap.size, 4, none⟩ = some (.slice ra rn rc) ∧ Below Wa.heap.size Wa w')
                  (first | exact hK | (go_split_ands; refine ⟨?_, ?_, ?_⟩ <;> first | exact bdrew (by assumption) | assumption | go_keep))
                  (first
                    | (go_at_call 20; go_split_ands; refine (HC2.out _ ⟨by assumption, by assumption, by assumption⟩).mono ?_; rintro e w5 ⟨va5, vc5, rfl, R5, hK⟩)
                    | (go_at_call 37; go_split_ands; refine (HF2.out _ _ R5.out ⟨by assumption, by assumption, by assumption⟩).mono ?_; rintro e w6 ⟨rfl, hK⟩)
                    | (go_at_call 46; go_split_ands; refine (HR2.out _ ⟨by assumption, by assumption, by assumption⟩).mono ?_; rintro e w7 ⟨rfl, hK⟩))
                all_goals go_split_ands
                all_goals
                  go_wp2_with fail
                  go_meet
                  exact ⟨by first | rfl | simp, Lib.hid (by assumption)⟩
              case rest =>
                obtain ⟨rfl, HBR⟩ := hcut
                have HEND := Lib.hid (HI.out.keep (bt2 HBA.out HBR.out))
                go_wp2_with fail
                go_roundw
                case rel => exact ⟨k + 1, d, da, dc, dn, by omega, rfl, by go_num, HDN, HEND⟩
                case measure => simp [intOf]; omega
            · have k3 : (ok == 3) = false := by simpa using e3
              clear e3
              by_cases e4 : ok = 4
              · have k4 : (ok == 4) = true := by simpa using e4
                clear e4
                obtain ⟨Q, hsch⟩ := (HI.out.keep HBA.out).sch
                have hal := sall_any Wa w.heap.size m d hsch
                rw [HDN.out] at hal
                have hsm := HI.out.small
                have HSM := Lib.hid hsm
                have hd8 : dn ≤ 8 := by rw [← HDN.out]; exact hsm.1
                have HAL := Lib.hid hal
                clear hal hsch hsm
                go_wp2_with fail
                refine HAL.out.mono ?_
                rintro e w5 ⟨aa, ac, rfl, hra, hb5⟩
                obtain ⟨Q', hsch5⟩ := (HI.out.keep (bt2 HBA.out hb5)).sch
                have hal5 := sall_any w5 w.heap.size m d hsch5
                rw [HDN.out] at hal5
                obtain ⟨T, hT⟩ := RlW.ofOwn (F := fun g => Wa.heap.size ≤ g ∧ g < w5.heap.size) (hra.mono (Q' := fun g => Wa.heap.size ≤ g ∧ g < w5.heap.size) (fun k hk h => ⟨h, hk⟩)) HDN.out (by omega) (fun x hx => by have := HSM.out.2 x hx; omega) (fun g h => h)
                have HAL5 := Lib.hid hal5
                have HT5 := Lib.hid hT
                have HB5 := Lib.hid hb5
                clear hal5 hT hra hsch5 hb5 HAL
                go_wp2_with fail
                refine HAL5.out.mono ?_
                rintro e w6 ⟨ba, bc, rfl, hrb, hb6⟩
                have HT6 := Lib.hid (HT5.out.mod (Mod.ofBelow (F := fun _ => False) hb6) (fun _ _ f => f))
                have HRB := Lib.hid hrb
                have HO6 := Lib.hid (bt2 HBA.out (bt2 HB5.out hb6))
                have hno := HO6.out.size
                clear hrb hb6 HAL5 HT5 b0 b1 b2 b3 b4 bl
                go_wp2_with fail
                go_loopw [174] (fun i wr => ∃ x : Nat, x ≤ dn ∧ i = .int .i64 x ∧ Hid (RlW (fun g => Wa.heap.size ≤ g ∧ g < w5.heap.size) wr aa dn T) ∧ Hid (Mod (fun g => Wa.heap.size ≤ g ∧ g < w5.heap.size) w6 wr)) (fun i _ => dn - (intOf i).toNat)
                case atStart => exact ⟨0, Nat.zero_le _, rfl, HT6, Lib.hid (Mod.refl _ _)⟩
                case round =>
                  obtain ⟨x, hx, rfl, HX, HMX⟩ := hrel
                  obtain ⟨wx, rfl⟩ : ∃ wx : World, wx = wr := ⟨_, rfl⟩
                  by_cases hxl : x < dn
                  · obtain ⟨g, t, kk, cc2, u, rfl, hF, hgl, hT, hu, hf, hcl2, hkk, hW⟩ := HX.out.at_ hxl
                    have hd3 : decide ((x : Int) < 0) = false := by simp
                    have hd4 : decide ((dn : Int) ≤ (x : Int)) = false := by simp; omega
                    have HF := Lib.hid hF
                    have HT := Lib.hid hT
                    clear hF hT hW
                    go_wp2_with fail
                    go_loopw [183] (fun i wr => ∃ y : Nat, y ≤ kk ∧ i = .int .i64 y ∧ Hid (RlW (fun g => Wa.heap.size ≤ g ∧ g < w5.heap.size) wr (some ⟨g, 0, none⟩) dn T) ∧ Hid (Mod (fun g => Wa.heap.size ≤ g ∧ g < w5.heap.size) w6 wr)) (fun i _ => kk - (intOf i).toNat)
                    case atStart => exact ⟨0, Nat.zero_le _, rfl, HX, HMX⟩
                    case round =>
                      obtain ⟨y, hy, rfl, HY, HMY⟩ := hrel
                      obtain ⟨wy, rfl⟩ : ∃ wy : World, wy = wr := ⟨_, rfl⟩
                      clear hu hf hcl2 hgl
                      obtain ⟨g', t', k', c', u', hgg, hF', hgl', hT', hu', hf', hcl', _, hW'⟩ := HY.out.at_ hxl
                      injection hgg with hgg
                      injection hgg with hgg _ _
                      subst hgg
                      rw [HT.out] at hT'
                      simp only [Option.some.injEq, Prod.mk.injEq] at hT'
                      obtain ⟨rfl, rfl, rfl⟩ := hT'
                      by_cases hyl : y < kk
                      · obtain ⟨q, rfl, ⟨hq1, hq2⟩, hql, hqa⟩ := hW'.at_ (by omega)
                        have hth : wy.there q (y * 2) 2 := fun z hz => by
                          obtain ⟨⟨u2, hu2⟩, hf2⟩ := hqa (y * 2 + z) (by omega)
                          exact ⟨by rw [hu2]; rfl, hf2⟩
                        have HTH := Lib.hid hth
                        have HQF := Lib.hid hq1
                        have HQN := Lib.hid hq2
                        have he1 : decide ((y : Int) < 0) = false := by simp
                        have he2 : decide ((kk : Int) ≤ (y : Int)) = false := by simp; omega
                        clear hth hqa hq1 hq2
                        go_wp2_with (refine wpList_store_mid rfl 72 _ _ rfl _ _ _ rfl rfl ?ht (by kernel_rfl) (by simp [Value.oneCell']) ?_)
                        case ht => exact HTH.out
                        go_wp2_with fail
                        go_roundw
                        case rel => exact ⟨y + 1, by omega, by go_num, Lib.hid (HY.out.setOther (fun e => HQN.out (by injection e with e; injection e with e _ _; exact e.symm)) _ _), Lib.hid (HMY.out.trans (mod_setCellsQ (F := fun g => Wa.heap.size ≤ g ∧ g < w5.heap.size) HQF.out _ _ wy) (fun _ _ f => f))⟩
                        case measure => simp [intOf]; omega
                      · obtain rfl : y = kk := by omega
                        clear hW'
                        go_wp2_with fail
                        go_roundw
                        case rel => exact ⟨x + 1, by omega, by go_num, Lib.hid (HY.out.setRel x _), Lib.hid (HMY.out.trans ((Mod.refl _ wy).setCell (p := ⟨g, x * 2, none⟩) (fun _ => HF.out) _) (fun _ _ f => f))⟩
                        case measure => simp [intOf]; omega
                  · obtain rfl : x = dn := by omega
                    have hox : Below wo.heap.size wo wx := HO6.out.trans (HMX.out.below hno (fun i hi => by have := HSA.out; omega))
                    have hbx : RelsAt wx (.slice ba x bc) d := HSM.out.at (HRB.out.mod HMX.out (fun q hq hf => by omega))
                    have HSR := Lib.hid (sameRels_any wx _ _ d hbx (HI.out.keep hox).rels)
                    have HOX := Lib.hid hox
                    clear hbx hox
                    go_wp2_with fail
                    refine HSR.out.mono ?_
                    rintro e w7 ⟨rfl, hb7⟩
                    have HEND := Lib.hid (HI.out.keep (bt2 HOX.out hb7))
                    clear hb7 HSR
                    go_wp2_with fail
                    go_roundw
                    case rel => exact ⟨k + 1, _, _, _, _, by omega, rfl, by go_num, HDN, HEND⟩
                    case measure => simp [intOf]; omega
              · have k4 : (ok == 4) = false := by simpa using e4
                clear e4
                have HEND := Lib.hid (HI.out.keep HBA.out)
                go_wp2_with fail
                go_roundw
                case rel => exact ⟨k + 1, d, da, dc, dn, by omega, rfl, by go_num, HDN, HEND⟩
                case measure => simp [intOf]; omega
      · obtain rfl : k = n := by omega
        obtain ⟨Q, hsch⟩ := HI.out.sch
        have hal := sall_any wo w.heap.size m d hsch
        rw [HDN.out] at hal
        have HAL := Lib.hid hal
        have HWO := Lib.hid HI.out.below
        clear hal hsch
        go_wp2_with fail
        refine HAL.out.mono ?_
        rintro e w2 ⟨aa, ac, rfl, hrn, hb2⟩
        have hsm := HI.out.small
        have HSR := Lib.hid (sameRels_any w2 _ _ d (hsm.at hrn) (HI.out.rels.keep hb2))
        have HB2 := Lib.hid hb2
        clear hrn hb2 hsm HAL
        go_wp2_with fail
        refine HSR.out.mono ?_
        rintro e w3 ⟨rfl, hb3⟩
        have hb3' := HWO.out.trans ((bt2 HB2.out hb3).mono HWO.out.size)
        have HAW := Lib.hid (awake08 w3 (HG.out.below hb3'))
        have HB3 := Lib.hid hb3'
        clear hb3 hb3' HSR
        go_wp2_with fail
        refine HAW.out.mono ?_
        rintro e w4 ⟨rfl, hb4⟩
        have HB4 := Lib.hid (HB3.out.trans (hb4.mono HB3.out.size))
        clear hb4
        go_wp2_with fail
        go_ret
        exact ⟨rfl, HB4.out⟩
  · have hbad : m < 1 ∨ 8 < m := by omega
    have HAW := Lib.hid (awake08 w HG.out)
    clear hok
    rcases (by omega : m < 1 ∨ (1 ≤ m ∧ 8 < m)) with h1 | ⟨h1, h8⟩
    · have d1 : decide (m < 1) = true := by simp; omega
      go_enter Tryd.func11, Tryd.ntmps11
      go_wp2_with fail
      refine (new_bad m _ hbad).mono ?_
      rintro e w1 ⟨rfl, rfl⟩
      go_wp2_with fail
      refine HAW.out.mono ?_
      rintro e w4 ⟨rfl, hb4⟩
      have HB4 := Lib.hid hb4
      clear hb4
      go_wp2_with fail
      go_ret
      exact ⟨rfl, HB4.out⟩
    · have d1 : decide (m < 1) = false := by simp; omega
      have d2 : decide (8 < m) = true := by simp; omega
      go_enter Tryd.func11, Tryd.ntmps11
      go_wp2_with fail
      refine (new_bad m _ hbad).mono ?_
      rintro e w1 ⟨rfl, rfl⟩
      go_wp2_with fail
      refine HAW.out.mono ?_
      rintro e w4 ⟨rfl, hb4⟩
      have HB4 := Lib.hid hb4
      clear hb4
      go_wp2_with fail
      go_ret
      exact ⟨rfl, HB4.out⟩
end Go.Proofs.YtgilflkgibfjgaaDoor
