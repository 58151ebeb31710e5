/- ChangeSays, walked. -/
import Derived.Test.YtgjknekoehfdfaaGreatDoorBd
import Derived.Test.YtgjknekoehfdfaaGreatDoorBe
import Derived.Test.YtgjknekoehfdfaaGreatDoorNw
import Derived.Test.YtgjknekoehfdfaaGreatDoorSy1Z
import Derived.Test.YtgjknekoehfdfaaGreatDoorApcZ
import Derived.Deep.RegionHeld3
import Derived.Deep.RegionLaw
import Derived.BigQuiet
namespace Go.Proofs.YtgjknekoehfdfaaGreatDoor
open Go.RowKit
set_option linter.unusedVariables false

theorem net_rows2 {l : List Chg} (h : ∀ c ∈ l, c.row.length ≤ 4398046511104) : ∀ c ∈ netC l, c.row.length ≤ 4398046511104 := fun c hc => h c (netC_mem hc)

/-- The cells that are compared: a change of a list, and the box of another. -/
def KS (p q : Addr) (nd nc : ByteArray) (rd rc : Value) (W0 W : World) : Prop :=
  W.cell? ⟨p.block, p.off + 1, none⟩ = some (.string nd) ∧ W.cell? ⟨p.block, p.off + 2, none⟩ = some rd ∧ W.cell? ⟨q.block, q.off + 1, none⟩ = some (.string nc) ∧ W.cell? ⟨q.block, q.off + 2, none⟩ = some rc ∧ Below W0.heap.size W0 W

set_option maxHeartbeats 32000000 in
set_option maxRecDepth 100000 in
theorem csays_card (v1 v2 : Value) (w : World) {f l : List Chg} (h1 : ChgsAt w v1 f) (hr1 : RangeB f) (hz1 : ∀ c ∈ f, c.rel.length ≤ 140737488351232 ∧ ∀ u ∈ c.row, u.t.length ≤ 140737488351232) (h2 : ChgsAt w v2 l) (hr2 : RangeB l) (hz2 : ∀ c ∈ l, c.rel.length ≤ 140737488351232 ∧ ∀ u ∈ c.row, u.t.length ≤ 140737488351232)
    (hn : f.length + l.length ≤ 1000000000) (hg : Glob w) :
    Calls Tryz.prog 4 #[v1, v2] w fun e w' => e = .returned (.bool true) ∧ Below w.heap.size w w' := by
  have hnot : ∀ (x : Bool) (w : World), (Op.unary .not (.bool x)).run Tryz.prog w = .ok (.bool (!x)) w := fun _ _ => rfl
  have hfr := h1.rows
  have hlr := h2.rows
  have hvr := net_rows2 hlr
  have hnl := netC_len l
  have hnf := netC_len f
  have HCF := Lib.hid (fun W u (hu : ChgsAt W u f) => copyB_any W u f hu (by omega))
  have HCL := Lib.hid (fun W u (hu : ChgsAt W u l) => copyB_any W u l hu (by omega))
  have HCV := Lib.hid (fun W u (hu : ChgsAt W u (netC l)) => copyB_any W u (netC l) hu (by omega))
  have HCG := Lib.hid (fun W u (hu : ChgsAt W u (netC f)) => copyB_any W u (netC f) hu (by omega))
  have HNL := Lib.hid (fun W u (hu : ChgsAt W u l) => cnet_any W u l hu (by omega) (fun c hc => by have := (hz2 c hc).1; omega))
  have HNF := Lib.hid (fun W u (hu : ChgsAt W u f) => cnet_any W u f hu (by omega) (fun c hc => by have := (hz1 c hc).1; omega))
  have HNV := Lib.hid (fun W u (hu : ChgsAt W u (netC l)) => cnet_any W u (netC l) hu (by omega) (fun c hc => by have := (hz2 c (netC_mem hc)).1; omega))
  have HNB := Lib.hid (fun W u (hu : ChgsAt W u (f ++ l)) => cnet_any W u (f ++ l) hu (by rw [List.length_append]; omega) (fun c hc => by
    rcases List.mem_append.1 hc with h | h
    · have := (hz1 c h).1; omega
    · have := (hz2 c h).1; omega))
  have HNG := Lib.hid (fun W u (hu : ChgsAt W u (netC f ++ netC l)) => cnet_any W u (netC f ++ netC l) hu (by rw [List.length_append]; omega) (fun c hc => by
    rcases List.mem_append.1 hc with h | h
    · have := (hz1 c (netC_mem h)).1; omega
    · have := (hz2 c (netC_mem h)).1; omega))
  have HSM := Lib.hid (fun W a b (m : List Chg) (ha : ChgsAt W a m) (hb : ChgsAt W b m) => sameChgs_any W a b m ha hb)
  have HFR := Lib.hid hfr
  have HLR := Lib.hid hlr
  have HVR := Lib.hid hvr
  have HGR : Hid (∀ c ∈ netC f, c.row.length ≤ 4398046511104) := Lib.hid (net_rows2 hfr)
  have HBR : Hid (∀ c ∈ netC (f ++ l), c.row.length ≤ 4398046511104) := Lib.hid (net_rows2 fun c hc => by
    rcases List.mem_append.1 hc with h | h
    · exact hfr c h
    · exact hlr c h)
  have HBL : Hid ((netC (f ++ l)).length ≤ 1000000000) := Lib.hid (by have := netC_len (f ++ l); rw [List.length_append] at this; omega)
  obtain ⟨fa, fc, rfl, _, _⟩ := h1.form
  obtain ⟨la, lc, rfl, hlc, hlm⟩ := h2.form
  unfold maxLen at hlm
  have HF := Lib.hid h1
  have HL := Lib.hid h2
  have HG := Lib.hid hg
  clear h1 h2 hr1 hr2 hz1 hz2 hg hfr hlr hvr
  generalize hFN : f.length = fn at *
  generalize hLN : l.length = n at *
  generalize hVN : (netC l).length = nv at *
  generalize hGN : (netC f).length = nf at *
  have HFN := Lib.hid hFN
  have HLN := Lib.hid hLN
  have HVN := Lib.hid hVN
  have HGN := Lib.hid hGN
  clear hFN hLN hVN hGN
  go_enter Tryz.func4, Tryz.ntmps4
  go_wp2_with fail
  refine (HCL.out w _ HL.out).mono ?_
  rintro e w1 ⟨cv, rfl, hown1, hb1⟩
  have hat1 := hown1.at (by rw [HLN.out]; omega) HLR.out
  obtain ⟨ca, cc, rfl, _, _⟩ := hat1.form
  rw [HLN.out] at hat1 ⊢
  have HN1 := Lib.hid (HNL.out w1 _ hat1)
  have HB1 := Lib.hid hb1
  clear hown1 hat1 hb1
  go_wp2_with fail
  refine HN1.out.mono ?_
  rintro e w2 ⟨nv2, rfl, hown2, hb2⟩
  have hat2 := hown2.at (by rw [HVN.out]; omega) HVR.out
  obtain ⟨na, nc, rfl, hnc, hnm⟩ := hat2.form
  unfold maxLen at hnm
  rw [HVN.out] at hat2 hnc ⊢
  have HV := Lib.hid hat2
  have HB2 := Lib.hid (bt2 HB1.out hb2)
  have HL2 := Lib.hid (HL.out.keep (bt2 HB1.out hb2))
  clear hown2 hat2 hb2 HN1 HB1
  go_wp2_with fail
  go_loopw [20] (fun iv wr => ∃ k : Nat, k ≤ nv ∧ iv = .int .i64 k ∧ Hid (Below w2.heap.size w2 wr)) (fun iv _ => nv - (intOf iv).toNat)
  case atStart => exact ⟨0, Nat.zero_le _, rfl, Lib.hid (Below.refl _ _)⟩
  case round =>
    obtain ⟨k, hk, rfl, BW⟩ := hrel
    obtain ⟨wo, rfl⟩ : ∃ wo : World, wo = wr := ⟨_, rfl⟩
    by_cases hlt : k < nv
    · obtain ⟨c, hc⟩ : ∃ c, (netC l)[k]? = some c := ⟨(netC l)[k]'(by rw [HVN.out]; exact hlt), List.getElem?_eq_getElem (by rw [HVN.out]; exact hlt)⟩
      have hli := mem_netC.1 (List.mem_of_getElem? hc)
      obtain ⟨b1, o1, c1, rv, hv1, _, _, hl1, q0, q1, q2, hr1, _⟩ := (HV.out.keep BW.out).get hc
      rw [HVN.out] at hv1
      simp only [Value.slice.injEq, true_and] at hv1
      obtain ⟨rfl, rfl⟩ := hv1
      obtain ⟨ra, rc, rfl, _, _⟩ := hr1.form
      have hdk : decide ((k : Int) < 0) = false := by simp
      have hdn : decide ((nv : Int) ≤ (k : Int)) = false := by simp; omega
      generalize hrn : (c.row.map Vl.cells).length = rn at *
      generalize hnm : (⟨c.rel.toArray⟩ : ByteArray) = cm at *
      have HCM := Lib.hid hnm
      have bx := Blk.new wo 30 #[.bool c.add, .string cm, .slice ra rn rc]
      have hbx : Below wo.heap.size wo (wo.alloc (.cells #[.bool c.add, .string cm, .slice ra rn rc] 30)) := balloc (Below.refl _ _) _
      obtain ⟨W1, hW1⟩ : ∃ W1, wo.alloc (.cells #[.bool c.add, .string cm, .slice ra rn rc] 30) = W1 := ⟨_, rfl⟩
      rw [hW1] at bx hbx
      have hbw1 := BW.out.trans (hbx.mono BW.out.size)
      have HR1 := Lib.hid (hr1.keep hbx)
      have HC := Lib.hid hc
      have HLI := Lib.hid hli
      have HW1 := Lib.hid hW1
      have HBX := Lib.hid bx
      have HBW1 := Lib.hid hbw1
      clear hr1 hc hli hW1 bx hbx hbw1 hnm hrn
      go_upto_region 5 with fail
      rw [HW1.out]
      clear HW1 q0 q1 q2 hl1
      go_wp2_with fail
      go_loopw [8, 27] (fun sv jv wr => ∃ (j : Nat) (last : Int), j ≤ n ∧ sv = .int .i64 last ∧ jv = .int .i64 j ∧ Hid (LastAt l c j last) ∧ Hid (Below W1.heap.size W1 wr)) (fun _ jv _ => n - (intOf jv).toNat)
      case atStart => exact ⟨0, -1, Nat.zero_le _, rfl, rfl, Lib.hid (LastAt.start l c), Lib.hid (Below.refl _ _)⟩
      case round =>
        obtain ⟨j, last, hj, rfl, rfl, HLA, BJ⟩ := hrel
        obtain ⟨wi, rfl⟩ : ∃ wi : World, wi = wr := ⟨_, rfl⟩
        by_cases hjl : j < n
        · obtain ⟨d, hd⟩ : ∃ d, l[j]? = some d := ⟨l[j]'(by rw [HLN.out]; exact hjl), List.getElem?_eq_getElem (by rw [HLN.out]; exact hjl)⟩
          have h2i := HBW1.out.trans (BJ.out.mono HBW1.out.size)
          obtain ⟨b2, o2, c2, ru, hv2, _, _, hl2, p0, p1, p2, hr2, _⟩ := (HL2.out.keep h2i).get hd
          rw [HLN.out] at hv2
          simp only [Value.slice.injEq, true_and] at hv2
          obtain ⟨rfl, rfl⟩ := hv2
          obtain ⟨ua, uc, rfl, _, _⟩ := hr2.form
          have hbb := HBX.out.below BJ.out HBX.out.lt
          have x1 := hbb.cell 1
          have x2 := hbb.cell 2
          have xl := hbb.lt
          simp only [List.getElem?_toArray, List.getElem?_cons_zero, List.getElem?_cons_succ] at x1 x2
          have hdj : decide ((j : Int) < 0) = false := by simp
          have hdl : decide ((n : Int) ≤ (j : Int)) = false := by simp; omega
          have hrc := HR1.out.keep BJ.out
          have HSR : Hid (∀ W, Below wi.heap.size wi W → Calls Tryz.prog 18 #[.slice ua (d.row.map Vl.cells).length uc, .slice ra rn rc] W fun e w' => e = .returned (.bool (sameV d.row c.row)) ∧ Below wi.heap.size wi w') := Lib.hid fun W hW => (sameRow_any W _ _ d.row c.row (hr2.keep hW) (hrc.keep hW)).mono fun e w' hh => ⟨hh.1, bt2 hW hh.2⟩
          have hal : alikeC d c = (decide (d.rel = c.rel) && sameV d.row c.row) := rfl
          have HHIT := Lib.hid (fun ha => LastAt.hit HLA.out hd ha)
          have HMISS := Lib.hid (fun ha => LastAt.miss HLA.out hd ha)
          generalize (d.row.map Vl.cells).length = dn at *
          generalize hdm : (⟨d.rel.toArray⟩ : ByteArray) = dm at *
          generalize sameV d.row c.row = sv at *
          have hbW := Below.refl wi.heap.size wi
          clear hd hr2 hrc hbb h2i p0
          by_cases hnn : d.rel = c.rel
          · obtain rfl : cm = dm := by rw [← HCM.out, ← hdm, hnn]
            rw [decide_eq_true hnn, Bool.true_and] at hal
            rw [hal] at HHIT HMISS
            clear hnn hdm hal
            go_wp2_with fail
            go_region_held3 (fun w' => w'.cell? ⟨b2, o2 + j * 3 + 1, none⟩ = some (.string cm) ∧ w'.cell? ⟨b2, o2 + j * 3 + 2, none⟩ = some (.slice ua dn uc) ∧ w'.cell? ⟨wo.heap.size, 1, none⟩ = some (.string cm) ∧ w'.cell? ⟨wo.heap.size, 2, none⟩ = some (.slice ra rn rc) ∧ Below wi.heap.size wi w')
              (first | exact hK | (go_split_ands; refine ⟨?_, ?_, ?_, ?_, ?_⟩ <;> first | exact bdrew (by assumption) | assumption | go_keep))
              (first | (go_at_call 18; go_split_ands; refine (HSR.out _ (by assumption)).mono ?_; rintro e w' ⟨rfl, hK1⟩; have hK : w'.cell? ⟨b2, o2 + j * 3 + 1, none⟩ = some (.string cm) ∧ w'.cell? ⟨b2, o2 + j * 3 + 2, none⟩ = some (.slice ua dn uc) ∧ w'.cell? ⟨wo.heap.size, 1, none⟩ = some (.string cm) ∧ w'.cell? ⟨wo.heap.size, 2, none⟩ = some (.slice ra rn rc) ∧ Below wi.heap.size wi w' := ⟨(hK1.cell hl2).trans p1, (hK1.cell hl2).trans p2, (hK1.cell xl).trans x1, (hK1.cell xl).trans x2, hK1⟩))
            all_goals go_split_ands
            all_goals
              have hbn : Below W1.heap.size W1 _ := BJ.out.trans (Below.mono (by assumption) BJ.out.size)
              have HBN := Lib.hid hbn
              cases sv with
              | true =>
                go_wp2_with fail
                go_roundw
                case rel => exact ⟨j + 1, j, by omega, rfl, by go_num, Lib.hid (HHIT.out rfl), HBN⟩
                case measure => simp [intOf]; omega
              | false =>
                go_wp2_with fail
                go_roundw
                case rel => exact ⟨j + 1, last, by omega, rfl, by go_num, Lib.hid (HMISS.out rfl), HBN⟩
                case measure => simp [intOf]; omega
          · have hne : ¬ (dm.toList = cm.toList) := fun e => hnn (by rw [← HCM.out, ← hdm] at e; simpa [ByteArray.toList_eq] using e)
            rw [decide_eq_false hnn, Bool.false_and] at hal
            rw [hal] at HHIT HMISS
            clear hnn hdm hal HSR HHIT
            go_wp2_with fail
            go_quiet (fail)
            go_wp2_with fail
            go_roundw
            case rel => exact ⟨j + 1, last, by omega, rfl, by go_num, Lib.hid (HMISS.out trivial), Lib.hid (bdrewN BJ.out _)⟩
            case measure => simp [intOf]; omega
        · obtain rfl : j = n := by omega
          have hla := HLA.out
          rw [← HLN.out] at hla
          obtain ⟨i, rfl, hli⟩ := hla.fin HLI.out
          have hij := (List.getElem?_eq_some_iff.1 hli).1
          rw [HLN.out] at hij
          have h2i := HBW1.out.trans (BJ.out.mono HBW1.out.size)
          obtain ⟨b2, o2, c2, ru, hv2, _, _, hl2, p0, p1, p2, hr2, _⟩ := (HL2.out.keep h2i).get hli
          rw [HLN.out] at hv2
          simp only [Value.slice.injEq, true_and] at hv2
          obtain ⟨rfl, rfl⟩ := hv2
          have hbb := HBX.out.below BJ.out HBX.out.lt
          have x0 := hbb.cell 0
          have xl := hbb.lt
          simp only [List.getElem?_toArray, List.getElem?_cons_zero] at x0
          have hdi : decide ((i : Int) < 0) = false := by simp
          have hdl : decide ((j : Int) ≤ (i : Int)) = false := by simp; omega
          generalize c.add = ca at *
          have hne : (ca != ca) = false := by simp
          clear hla hli h2i hr2 hbb p1 p2 HLA
          go_wp2_with fail
          go_quiet (fail)
          clear p0 x0 xl hl2
          go_wp2_with fail
          go_loopw [10] (fun jv wr => ∃ m : Nat, m ≤ k ∧ jv = .int .i64 m ∧ Hid (Below W1.heap.size W1 wr)) (fun jv _ => k - (intOf jv).toNat)
          case atStart => exact ⟨0, Nat.zero_le _, rfl, Lib.hid (bdrewN BJ.out _)⟩
          case round =>
            obtain ⟨m, hm, rfl, BM⟩ := hrel
            obtain ⟨wm, rfl⟩ : ∃ wm : World, wm = wr := ⟨_, rfl⟩
            by_cases hml : m < k
            · obtain ⟨d, hd⟩ : ∃ d, (netC l)[m]? = some d := ⟨(netC l)[m]'(by rw [HVN.out]; omega), List.getElem?_eq_getElem (by rw [HVN.out]; omega)⟩
              have hap := net_apart hd HC.out hml
              have h2m := HBW1.out.trans (BM.out.mono HBW1.out.size)
              obtain ⟨b3, o3, c3, ru, hv3, _, _, hl3, p0, p1, p2, hr3, _⟩ := (HV.out.keep h2m).get hd
              rw [HVN.out] at hv3
              simp only [Value.slice.injEq, true_and] at hv3
              obtain ⟨hv3, rfl⟩ := hv3
              simp only [Option.some.injEq, Addr.mk.injEq, and_true] at hv3
              obtain ⟨rfl, rfl⟩ := hv3
              obtain ⟨ua, uc, rfl, _, _⟩ := hr3.form
              have hbb := HBX.out.below BM.out HBX.out.lt
              have x1 := hbb.cell 1
              have x2 := hbb.cell 2
              have xl := hbb.lt
              simp only [List.getElem?_toArray, List.getElem?_cons_zero, List.getElem?_cons_succ] at x1 x2
              have hdm0 : decide ((m : Int) < 0) = false := by simp
              have hdm1 : decide ((nv : Int) ≤ (m : Int)) = false := by simp; omega
              have hmn : m < nv := by omega
              have hmn2 : (m : Int) < (nv : Int) := by omega
              have hrc := HR1.out.keep BM.out
              have HSR : Hid (∀ W, Below wm.heap.size wm W → Calls Tryz.prog 18 #[.slice ua (d.row.map Vl.cells).length uc, .slice ra rn rc] W fun e w' => e = .returned (.bool (sameV d.row c.row)) ∧ Below wm.heap.size wm w') := Lib.hid fun W hW => (sameRow_any W _ _ d.row c.row (hr3.keep hW) (hrc.keep hW)).mono fun e w' hh => ⟨hh.1, bt2 hW hh.2⟩
              have hal : alikeC d c = (decide (d.rel = c.rel) && sameV d.row c.row) := rfl
              rw [hap] at hal
              generalize (d.row.map Vl.cells).length = dn at *
              generalize hdm : (⟨d.rel.toArray⟩ : ByteArray) = dm at *
              generalize sameV d.row c.row = sv at *
              have hbW := Below.refl wm.heap.size wm
              clear hd hr3 hrc hbb h2m p0 hap
              by_cases hnn : d.rel = c.rel
              · obtain rfl : cm = dm := by rw [← HCM.out, ← hdm, hnn]
                rw [decide_eq_true hnn, Bool.true_and] at hal
                subst hal
                clear hnn hdm
                go_wp2_with fail
                go_region_held3 (fun w' => w'.cell? ⟨b1, o1 + m * 3 + 1, none⟩ = some (.string cm) ∧ w'.cell? ⟨b1, o1 + m * 3 + 2, none⟩ = some (.slice ua dn uc) ∧ w'.cell? ⟨wo.heap.size, 1, none⟩ = some (.string cm) ∧ w'.cell? ⟨wo.heap.size, 2, none⟩ = some (.slice ra rn rc) ∧ Below wm.heap.size wm w')
                  (first | exact hK | (go_split_ands; refine ⟨?_, ?_, ?_, ?_, ?_⟩ <;> first | exact bdrew (by assumption) | assumption | go_keep))
                  (first | (go_at_call 18; go_split_ands; refine (HSR.out _ (by assumption)).mono ?_; rintro e w' ⟨rfl, hK1⟩; have hK : w'.cell? ⟨b1, o1 + m * 3 + 1, none⟩ = some (.string cm) ∧ w'.cell? ⟨b1, o1 + m * 3 + 2, none⟩ = some (.slice ua dn uc) ∧ w'.cell? ⟨wo.heap.size, 1, none⟩ = some (.string cm) ∧ w'.cell? ⟨wo.heap.size, 2, none⟩ = some (.slice ra rn rc) ∧ Below wm.heap.size wm w' := ⟨(hK1.cell hl3).trans p1, (hK1.cell hl3).trans p2, (hK1.cell xl).trans x1, (hK1.cell xl).trans x2, hK1⟩))
                all_goals go_split_ands
                all_goals
                  have hbn : Below W1.heap.size W1 _ := BM.out.trans (Below.mono (by assumption) BM.out.size)
                  have HBN := Lib.hid hbn
                  go_wp2_with fail
                  go_roundw
                  case rel => exact ⟨m + 1, by omega, by go_num, HBN⟩
                  case measure => simp [intOf]; omega
              · have hne : ¬ (dm.toList = cm.toList) := fun e => hnn (by rw [← HCM.out, ← hdm] at e; simpa [ByteArray.toList_eq] using e)
                clear hnn hdm hal HSR
                go_wp2_with fail
                go_quiet (fail)
                go_wp2_with fail
                go_roundw
                case rel => exact ⟨m + 1, by omega, by go_num, Lib.hid (bdrewN BM.out _)⟩
                case measure => simp [intOf]; omega
            · obtain rfl : m = k := by omega
              have hmm : decide ((m : Int) < (m : Int)) = false := by simp
              have HBE := Lib.hid (HBW1.out.trans (BM.out.mono HBW1.out.size))
              go_wp2_with fail
              go_roundw
              case rel => exact ⟨m + 1, by omega, by go_num, HBE⟩
              case measure => simp [intOf]; omega
    · obtain rfl : k = nv := by omega
      have HBW := Lib.hid (HB2.out.trans (BW.out.mono HB2.out.size))
      have HV0 := Lib.hid (HV.out.keep BW.out)
      have HL0 := Lib.hid (HL2.out.keep BW.out)
      clear hlt HL2
      go_wp2_with fail
      go_loopw [88] (fun iv wr => ∃ j : Nat, j ≤ n ∧ iv = .int .i64 j ∧ Hid (Below wo.heap.size wo wr)) (fun iv _ => n - (intOf iv).toNat)
      case atStart => exact ⟨0, Nat.zero_le _, rfl, Lib.hid (Below.refl _ _)⟩
      case round =>
        obtain ⟨j, hj, rfl, BJ⟩ := hrel
        obtain ⟨wi, rfl⟩ : ∃ wi : World, wi = wr := ⟨_, rfl⟩
        by_cases hjl : j < n
        · obtain ⟨c, hc⟩ : ∃ c, l[j]? = some c := ⟨l[j]'(by rw [HLN.out]; exact hjl), List.getElem?_eq_getElem (by rw [HLN.out]; exact hjl)⟩
          obtain ⟨b1, o1, c1, rv, hv1, _, _, hl1, q0, q1, q2, hr1, _⟩ := (HL0.out.keep BJ.out).get hc
          rw [HLN.out] at hv1
          simp only [Value.slice.injEq, true_and] at hv1
          obtain ⟨rfl, rfl⟩ := hv1
          obtain ⟨ra, rc, rfl, _, _⟩ := hr1.form
          have hdk : decide ((j : Int) < 0) = false := by simp
          have hdn : decide ((n : Int) ≤ (j : Int)) = false := by simp; omega
          have hbx : Below wi.heap.size wi (wi.alloc (.cells #[.bool c.add, .string ⟨c.rel.toArray⟩, .slice ra (c.row.map Vl.cells).length rc] 30)) := balloc (Below.refl _ _) _
          have bx := Blk.new wi 30 #[.bool c.add, .string ⟨c.rel.toArray⟩, .slice ra (c.row.map Vl.cells).length rc]
          obtain ⟨W1, hW1⟩ : ∃ W1, wi.alloc (.cells #[.bool c.add, .string ⟨c.rel.toArray⟩, .slice ra (c.row.map Vl.cells).length rc] 30) = W1 := ⟨_, rfl⟩
          rw [hW1] at hbx bx
          have hnm := names10_any W1 _ (netC l) c _ ((HV0.out.keep BJ.out).keep hbx) (hr1.keep hbx)
          rw [names_all (List.mem_of_getElem? hc)] at hnm
          have HNM := Lib.hid hnm
          have HW1 := Lib.hid hW1
          have HBX := Lib.hid (bt2 BJ.out hbx)
          have x0 := bx.cell 0
          have x1 := bx.cell 1
          have x2 := bx.cell 2
          have xl := bx.lt
          simp only [List.getElem?_toArray, List.getElem?_cons_zero, List.getElem?_cons_succ] at x0 x1 x2
          clear hr1 hc hnm hW1 hbx bx
          generalize (c.row.map Vl.cells).length = rn at *
          go_upto_region 23 with fail
          rw [HW1.out]
          clear HW1 q0 q1 q2 hl1
          go_wp2_with fail
          refine HNM.out.mono ?_
          rintro e w5 ⟨rfl, hb5⟩
          have HB5 := Lib.hid (bt2 HBX.out hb5)
          clear hb5 HNM x0 x1 x2 xl
          go_wp2_with fail
          go_roundw
          case rel => exact ⟨j + 1, by omega, by go_num, HB5⟩
          case measure => simp [intOf]; omega
        · obtain rfl : j = n := by omega
          have HV1 := Lib.hid (HV0.out.keep BJ.out)
          have HBI := Lib.hid (HBW.out.trans (BJ.out.mono HBW.out.size))
          have HC3 := Lib.hid (HCV.out wi _ HV1.out)
          clear hjl HV0 HL0 HBW BJ BW
          go_wp2_with fail
          refine HC3.out.mono ?_
          rintro e w3 ⟨cv3, rfl, hown3, hb3⟩
          have hat3 := hown3.at (by rw [HVN.out]; omega) HVR.out
          obtain ⟨ca3, cc3, rfl, _, _⟩ := hat3.form
          rw [HVN.out] at hat3 ⊢
          have HN3 := Lib.hid (HNV.out w3 _ hat3)
          have HV3 := Lib.hid (HV1.out.keep hb3)
          have HB3 := Lib.hid (bt2 HBI.out hb3)
          clear hown3 hat3 hb3 HC3 HV1 HBI
          go_wp2_with fail
          refine HN3.out.mono ?_
          rintro e w4 ⟨nv4, rfl, hown4, hb4⟩
          rw [net_net] at hown4
          have hat4 := hown4.at (by rw [HVN.out]; omega) HVR.out
          obtain ⟨na4, nc4, rfl, _, _⟩ := hat4.form
          rw [HVN.out] at hat4 ⊢
          have HS4 := Lib.hid (HSM.out w4 _ _ (netC l) hat4 (HV3.out.keep hb4))
          have HV4 := Lib.hid (HV3.out.keep hb4)
          have HB4 := Lib.hid (bt2 HB3.out hb4)
          clear hown4 hat4 hb4 HN3 HV3 HB3
          go_wp2_with fail
          refine HS4.out.mono ?_
          rintro e w5 ⟨rfl, hb5⟩
          have HV5 := Lib.hid (HV4.out.keep hb5)
          have HB5 := Lib.hid (bt2 HB4.out hb5)
          have HC5 := Lib.hid (HCF.out w5 _ (HF.out.keep HB5.out))
          clear hb5 HS4 HV4 HB4
          go_wp2_with fail
          refine HC5.out.mono ?_
          rintro e w6 ⟨cf6, rfl, hown6, hb6⟩
          obtain ⟨fa6, fc6, rfl, _, _⟩ := (hown6.at (by rw [HFN.out]; omega) HFR.out).form
          rw [HFN.out] at hown6 ⊢
          have HO6 := Lib.hid hown6
          have HB56 := Lib.hid hb6
          have HC6 := Lib.hid (HCL.out w6 _ (HL.out.keep (bt2 HB5.out hb6)))
          have hs56 := hb6.size
          clear hown6 hb6 HC5
          go_wp2_with fail
          refine HC6.out.mono ?_
          rintro e w7 ⟨cl7, rfl, hown7, hb7⟩
          obtain ⟨la7, lc7, rfl, _, _⟩ := (hown7.at (by rw [HLN.out]; omega) HLR.out).form
          rw [HLN.out] at hown7 ⊢
          have HO7 := Lib.hid hown7
          have HO67 := Lib.hid (HO6.out.mt (MT.ofBelow (B := 0) (Ts := []) hb7) (by simp) (by simp))
          have HB57 := Lib.hid (bt2 HB56.out hb7)
          have hs67 := hb7.size
          clear hown7 hb7 HC6 HO6 HB56
          go_wp2_with (at_builtin; refine wpList_append_chgs rfl (.tmp 104) (.tmp 106) rfl w5.heap.size w6.heap.size _ _ _ _ _ _ f l rfl rfl HO67.out HO7.out HFN.out HLN.out hs56 (by omega) (by omega) ?_)
          intro ua8 uc8 w8 hown8 hb8
          have h58 := HB57.out.trans hb8
          have hat8 := hown8.at (by rw [List.length_append, HFN.out, HLN.out]; omega) (fun c hc => by
            rcases List.mem_append.1 hc with h | h
            · exact HFR.out c h
            · exact HLR.out c h)
          have HN8 := Lib.hid (HNB.out w8 _ hat8)
          have HV8 := Lib.hid (HV5.out.keep h58)
          have HB8 := Lib.hid (bt2 HB5.out h58)
          clear hown8 hb8 h58 hat8 HO67 HO7 HV5 HB57 HB5 hs56 hs67
          go_wp2_with fail
          refine HN8.out.mono ?_
          rintro e w9 ⟨bv9, rfl, hown9, hb9⟩
          have hat9 := hown9.at (by have := HBL.out; omega) HBR.out
          obtain ⟨ba9, bc9, rfl, _, _⟩ := hat9.form
          have HAT9 := Lib.hid hat9
          have HV9 := Lib.hid (HV8.out.keep hb9)
          have HB9 := Lib.hid (bt2 HB8.out hb9)
          have HC9 := Lib.hid (HCF.out w9 _ (HF.out.keep HB9.out))
          clear hown9 hat9 hb9 HN8 HV8 HB8
          go_wp2_with fail
          refine HC9.out.mono ?_
          rintro e w10 ⟨cf10, rfl, hown10, hb10⟩
          have hat10 := hown10.at (by rw [HFN.out]; omega) HFR.out
          obtain ⟨fa10, fc10, rfl, _, _⟩ := hat10.form
          rw [HFN.out] at hat10 ⊢
          have HN10 := Lib.hid (HNF.out w10 _ hat10)
          have HAT10 := Lib.hid (HAT9.out.keep hb10)
          have HV10 := Lib.hid (HV9.out.keep hb10)
          have HB10 := Lib.hid (bt2 HB9.out hb10)
          clear hown10 hat10 hb10 HC9 HAT9 HV9 HB9
          go_wp2_with fail
          refine HN10.out.mono ?_
          rintro e w11 ⟨nf11, rfl, hown11, hb11⟩
          have hat11 := hown11.at (by rw [HGN.out]; omega) HGR.out
          obtain ⟨ga11, gc11, rfl, _, _⟩ := hat11.form
          rw [HGN.out] at hat11 ⊢
          have HC11 := Lib.hid (HCG.out w11 _ hat11)
          have HAT11 := Lib.hid (HAT10.out.keep hb11)
          have HV11 := Lib.hid (HV10.out.keep hb11)
          have HB11 := Lib.hid (bt2 HB10.out hb11)
          clear hown11 hat11 hb11 HN10 HAT10 HV10 HB10
          go_wp2_with fail
          refine HC11.out.mono ?_
          rintro e w12 ⟨cg12, rfl, hown12, hb12⟩
          obtain ⟨ga12, gc12, rfl, _, _⟩ := (hown12.at (by rw [HGN.out]; omega) HGR.out).form
          rw [HGN.out] at hown12 ⊢
          have HO12 := Lib.hid hown12
          have HB1112 := Lib.hid hb12
          have HC12 := Lib.hid (HCV.out w12 _ (HV11.out.keep hb12))
          have hs12 := hb12.size
          clear hown12 hb12 HC11
          go_wp2_with fail
          refine HC12.out.mono ?_
          rintro e w13 ⟨cv13, rfl, hown13, hb13⟩
          obtain ⟨va13, vc13, rfl, _, _⟩ := (hown13.at (by rw [HVN.out]; omega) HVR.out).form
          rw [HVN.out] at hown13 ⊢
          have HO13 := Lib.hid hown13
          have HO1213 := Lib.hid (HO12.out.mt (MT.ofBelow (B := 0) (Ts := []) hb13) (by simp) (by simp))
          have HB1113 := Lib.hid (bt2 HB1112.out hb13)
          have hs13 := hb13.size
          clear hown13 hb13 HC12 HO12 HB1112
          go_wp2_with (at_builtin; refine wpList_append_chgs rfl (.tmp 112) (.tmp 114) rfl w11.heap.size w12.heap.size _ _ _ _ _ _ (netC f) (netC l) rfl rfl HO1213.out HO13.out HGN.out HVN.out hs12 (by omega) (by omega) ?_)
          intro ua14 uc14 w14 hown14 hb14
          have h1114 := HB1113.out.trans hb14
          have hat14 := hown14.at (by rw [List.length_append, HGN.out, HVN.out]; omega) (fun c hc => by
            rcases List.mem_append.1 hc with h | h
            · exact HGR.out c h
            · exact HVR.out c h)
          have HN14 := Lib.hid (HNG.out w14 _ hat14)
          have HAT14 := Lib.hid (HAT11.out.keep h1114)
          have HB14 := Lib.hid (bt2 HB11.out h1114)
          clear hown14 hb14 h1114 hat14 HO1213 HO13 HV11 HB1113 HB11 HAT11 hs12 hs13
          go_wp2_with fail
          refine HN14.out.mono ?_
          rintro e w15 ⟨tv15, rfl, hown15, hb15⟩
          rw [net_both] at hown15
          have hat15 := hown15.at (by have := HBL.out; omega) HBR.out
          obtain ⟨ta15, tc15, rfl, _, _⟩ := hat15.form
          have HS15 := Lib.hid (HSM.out w15 _ _ (netC (f ++ l)) (HAT14.out.keep hb15) hat15)
          have HB15 := Lib.hid (bt2 HB14.out hb15)
          clear hown15 hat15 hb15 HN14 HAT14 HB14
          go_wp2_with fail
          refine HS15.out.mono ?_
          rintro e w16 ⟨rfl, hb16⟩
          have HB16 := Lib.hid (bt2 HB15.out hb16)
          have HAW := Lib.hid (awake10 _ (HG.out.below HB16.out))
          clear hb16 HS15 HB15
          go_wp2_with fail
          refine HAW.out.mono ?_
          rintro e w17 ⟨rfl, hb17⟩
          have HB17 := Lib.hid (bt2 HB16.out hb17)
          clear hb17
          go_wp2_with fail
          go_ret
          exact ⟨by first | rfl | simp, HB17.out⟩
end Go.Proofs.YtgjknekoehfdfaaGreatDoor
