/- SchemaFits, walked. -/
import Derived.Test.YtgilflkgibfjgaaDoorKx
import Derived.Test.YtgilflkgibfjgaaDoorRvZ
import Derived.Test.YtgilflkgibfjgaaDoorKe
import Derived.Test.YtgilflkgibfjgaaDoorRm2Z
import Derived.BigQuiet
import Derived.Deep.RegionLaw
namespace Go.Proofs.YtgilflkgibfjgaaDoor
open Go.RowKit
set_option linter.unusedVariables false

def kindG (p : Vl × Col) : Bool := decide (p.1.k = p.2.k)
theorem all_badG {row : List Vl} {cols : List Col} (hl : row.length = cols.length) : (row.zip cols).all fitG = (!row.any badV && (row.zip cols).all kindG) := by
  induction row generalizing cols with
  | nil => simp
  | cons u l ih =>
    cases cols with
    | nil => simp at hl
    | cons c cs =>
      simp only [List.length_cons, Nat.add_right_cancel_iff] at hl
      rw [List.zip_cons_cons, List.all_cons, List.all_cons, List.any_cons, ih hl]
      simp only [fitG, kindG, okF, badV]
      generalize validB u.k u.n u.t = a
      generalize decide (u.k = c.k) = b
      generalize l.any badV = d
      generalize (l.zip cs).all kindG = e
      revert a b d e
      decide
/-- What the law reckons: the row is as long, right, and of these kinds. -/
theorem fitsB_law {row : List Vl} {cols : List Col} (h5 : cols.length ≤ 5) : fitsB row cols = (decide (row.length = cols.length) && rowB row && (row.zip cols).all kindG) := by
  unfold fitsB
  by_cases hl : row.length = cols.length
  · rw [decide_eq_true hl, all_badG hl]
    unfold rowB
    rw [decide_eq_true (show row.length ≤ 30 by omega)]
    simp
  · rw [decide_eq_false hl]
    simp
theorem plI_one_ne (r : Rln) {x : List UInt8} (h : x ≠ r.name) : plI [r] x = -1 := by
  unfold plI
  refine idxI_miss ?_
  simpa using h
theorem plI_one_eq (r : Rln) : plI [r] r.name = 0 := by
  unfold plI idxI
  simp
theorem fitD_one (r : Rln) (row : List Vl) : fitD [r] r.name row = if fitsB row r.cols = true then 0 else 87 := fitD_some (k := 0) (plI_one_eq r) rfl
theorem fitD_more (r : Rln) (row : List Vl) : fitD [r] (r.name ++ [120]) row = 86 := fitD_none (plI_one_ne r (by simp))

set_option maxHeartbeats 8000000 in
set_option maxRecDepth 100000 in
theorem sfits_law (w : World) (nm : ByteArray) (v : Value) (cs : List Col) (rv : Value) (row : List Vl) (h : ColsAt w v cs) (hl : cs.length ≤ 5864062014634) (hn : nm.size ≤ 140737488355328) (hc : ∀ c ∈ cs, c.x.length ≤ 140737488355328)
    (hrow : RowAt w rv 3 (row.map Vl.cells)) (hrl : row.length ≤ 4398046511104) (hg : Glob w) :
    Calls Tryd.prog 9 #[.agg #[.string nm, v], rv] w fun e w' => e = .returned (.bool true) ∧ Below w.heap.size w w' := by
  have hnot : ∀ (x : Bool) (w : World), (Op.unary .not (.bool x)).run Tryd.prog w = .ok (.bool (!x)) w := fun _ _ => rfl
  have hb0 : Below w.heap.size w (w.alloc (.cells #[.string nm, v] 64)) := balloc (Below.refl _ _) _
  have hbx := Blk.new w 64 #[.string nm, v]
  have hz0 : (w.alloc (.cells #[.string nm, v] 64)).heap.size = w.heap.size + 1 := by simp
  obtain ⟨va, vc, rfl, _, _⟩ := h.form
  obtain ⟨ra, rc, rfl, hrn, hrm⟩ := hrow.form
  have HV := Lib.hid h
  have HROW := Lib.hid hrow
  have HG := Lib.hid hg
  have HC := Lib.hid hc
  have HB0 := Lib.hid hb0
  have HBX := Lib.hid hbx
  have HZ0 := Lib.hid hz0
  clear h hrow hg hc hb0 hbx hz0
  rw [List.length_map] at *
  go_enter Tryd.func9, Tryd.ntmps9
  go_wp2_with fail
  refine (new_ok 1 _ (by decide) (by decide)).mono ?_
  rintro e w1 ⟨rfl, hw1⟩
  have hs1 : ∀ Q, SchAt Q w1 (w.heap.size + 1) 1 [] := by
    intro Q
    rw [hw1, ← HZ0.out]
    exact SchAt.new _ _
  have hb1 : Below w.heap.size w w1 := by
    rw [hw1]
    exact balloc HB0.out _
  have hx1 := HBX.out.alloc (.cells #[.int .i64 1, .slice none 0 0] 132)
  rw [← hw1] at hx1
  have x0 := hx1.cell 0
  have x1 := hx1.cell 1
  have xl := hx1.lt
  simp only [List.getElem?_toArray, List.getElem?_cons_zero, List.getElem?_cons_succ] at x0 x1
  have HS1 := Lib.hid (hs1 (fun k => w1.heap.size ≤ k))
  have HB1 := Lib.hid hb1
  have HX1 := Lib.hid hx1
  have HCP := Lib.hid (copyRel_any w1 nm _ cs (HV.out.keep hb1) hl)
  clear hs1 hb1 hx1 hw1
  go_wp2_with fail
  refine HCP.out.mono ?_
  rintro e w2 ⟨u, rfl, hown2, hb2⟩
  have hu : ColsAt w2 u cs := ColsOwn.at (B := 0) (by
    show World.ownsRow _ _ _ _ _ _ _
    rw [← cols_flat]
    exact World.ownsRow.low hown2 (Nat.zero_le _)) (by omega)
  have hadd := add_any (Q := fun k => w1.heap.size ≤ k) w2 (w.heap.size + 1) 1 [] nm u cs (HS1.out.keep hb2) (by decide) (by decide) (by have := HS1.out.lt; omega) hu hl hn HC.out
  have HAD := Lib.hid hadd
  have hs12 := hb2.size
  have HB2 := Lib.hid hb2
  clear hadd hu hown2 hb2 HCP
  go_wp2_with fail
  refine HAD.out.mono ?_
  rintro e w3 ⟨rfl, hs3, hm3⟩
  have hs3' : SchAt (fun k => w1.heap.size ≤ k) w3 (w.heap.size + 1) 1 (addL 1 [] ⟨nm.data.toList, cs⟩) := hs3.mono (fun k _ hk => hk.elim id (fun h => Nat.le_trans hs12 h))
  have hb23 : Below (w.heap.size + 1) w2 w3 := hm3.below (by have := HS1.out.lt; omega) (fun i hi => by
    rcases hi with rfl | hi
    · exact Nat.le_refl _
    · have := HS1.out.lt
      omega)
  have hb13 : Below (w.heap.size + 1) w1 w3 := (HB2.out.mono (by have := HS1.out.lt; omega)).trans hb23
  have hb3 : Below w.heap.size w w3 := HB1.out.trans (hb13.mono (Nat.le_succ _))
  have hx3 := HX1.out.below hb13 (by omega)
  have x0 := hx3.cell 0
  have x1 := hx3.cell 1
  have xl := hx3.lt
  simp only [List.getElem?_toArray, List.getElem?_cons_zero, List.getElem?_cons_succ] at x0 x1
  have HS3 := Lib.hid hs3'
  have HB3 := Lib.hid hb3
  have HX3 := Lib.hid hx3
  have HR3 := Lib.hid (HROW.out.keep hb3)
  have HC3 := Lib.hid (ColsAt.keep HV.out hb3)
  have HG3 := Lib.hid (HG.out.below hb3)
  clear hs3 hm3 hs3' hb23 hb13 hb3 hx3 HAD HB2 HX1 HB1 HS1 hs12
  have HCR := Lib.hid (fun W (hW : Below w3.heap.size w3 W) => copyRow_any W _ row (HR3.out.keep hW) hrl)
  have HAW := Lib.hid (fun W (hW : Below w3.heap.size w3 W) => awake08 W (HG3.out.below hW))
  have HFI := Lib.hid (fun W u (x : ByteArray) (hW : Below w3.heap.size w3 W) (hr : RowAt W u 3 (row.map Vl.cells)) => sfits_any W (w.heap.size + 1) 1 _ x u row (HS3.out.keep hW) hr)
  by_cases hE : addE 1 [] ⟨nm.data.toList, cs⟩ = 0
  · rw [addL_more hE] at HS3 HFI
    have hck : chkC nm.data.toList cs = 0 := Classical.byContradiction fun hk => by
      rw [addE_chk (r := ⟨nm.data.toList, cs⟩) hk] at hE
      exact hk hE
    have h5 : cs.length ≤ 5 := (chkC_ok hck).2.2.1
    have hfl := fitsB_law (row := row) h5
    have hf1 := fitD_one ⟨nm.data.toList, cs⟩ row
    have hf2 := fitD_more ⟨nm.data.toList, cs⟩ row
    rw [List.nil_append] at HS3 HFI
    rw [hE]
    have HFL := Lib.hid hfl
    have hfi1 := fun W u hW hr => HFI.out W u nm hW hr
    simp only [show fitD [⟨nm.data.toList, cs⟩] nm.data.toList row = _ from hf1] at hfi1
    have hfi2 := fun W hW => HFI.out W _ (nm ++ ⟨#[120]⟩) hW (HR3.out.keep hW)
    simp only [show fitD [⟨nm.data.toList, cs⟩] (nm ++ ⟨#[120]⟩ : ByteArray).data.toList row = 86 by simpa using hf2] at hfi2
    have HF1 := Lib.hid hfi1
    have HF2 := Lib.hid hfi2
    have HVL := Lib.hid (fun W (hW : Below w3.heap.size w3 W) => refRowValid_any W _ row (HR3.out.keep hW))
    clear hE hck hfl hf1 hf2 hfi1 hfi2 HFI HS3
    have hcz : ¬ 9223372036854775807 < nm.size + 1 := by omega
    have hcz2 : nm.size + 1 ≤ 9223372036854775807 := by omega
    generalize hN : row.length = n at *
    generalize hM : cs.length = cn at *
    have HN := Lib.hid hN
    have HM := Lib.hid hM
    clear hN hM
    generalize hrb : rowB row = rb at *
    clear hrb
    have hbw := Below.refl w3.heap.size w3
    have HBW := Lib.hid hbw
    clear hbw
    by_cases hlen : n = cn
    · subst hlen
      go_wp2_with fail
      refine (HVL.out _ HBW.out).mono ?_
      rintro e w4 ⟨rfl, hb4⟩
      have HB4 := Lib.hid hb4
      clear hb4
      go_wp2_with fail
      go_loopw [7, 8] (fun s i wr => ∃ (k : Nat) (gd : Bool), k ≤ n ∧ s = .bool gd ∧ i = .int .i64 k ∧ Hid (gd = (rb && ((row.zip cs).take k).all kindG)) ∧ Hid (Below w3.heap.size w3 wr)) (fun s i _ => n - (intOf i).toNat)
      case atStart => exact ⟨0, rb, Nat.zero_le _, rfl, rfl, Lib.hid (by simp), HB4⟩
      case round =>
        obtain ⟨k, gd, hk, rfl, rfl, HP, BW⟩ := hrel
        cases gd with
        | false =>
          have hG : fitsB row cs = false := by
            rw [HFL.out, Bool.eq_false_iff]
            intro ht
            simp only [Bool.and_eq_true, List.all_eq_true] at ht
            have hp := HP.out
            rw [ht.1.2, Bool.true_and, eq_comm, ← Bool.not_eq_true, List.all_eq_true] at hp
            exact hp fun x hx => ht.2 x (List.mem_of_mem_take hx)
          have hf := HF1.out
          rw [hG] at hf
          simp only [Bool.false_eq_true, ↓reduceIte] at hf
          have HF := Lib.hid hf
          have hx7 := HX3.out.below BW.out HX3.out.lt
          have x07 := hx7.cell 0
          have xl7 := hx7.lt
          simp only [List.getElem?_toArray, List.getElem?_cons_zero] at x07
          have BW := BW
          clear hG hf hx7 HF1
          go_wp2_with fail
          first
            | go_region_law (first
                | (go_simp; go_at_call 20; refine (HCR.out _ (bdrewN BW.out _)).mono ?_; rintro e w6 ⟨u6, rfl, hown6, hb6⟩; have B6 : Below w3.heap.size w3 w6 := (bdrewN BW.out _).trans (hb6.mono BW.out.size); have hx6 := HX3.out.below B6 HX3.out.lt; have x06 := hx6.cell 0; have xl6 := hx6.lt; simp only [List.getElem?_toArray, List.getElem?_cons_zero] at x06; have R6 := Lib.hid (RowAt.ofOwn hown6 (by rw [List.length_map, HN.out]) (vl_len _) (by rw [List.length_map, HN.out]; omega)); have HB6 := Lib.hid B6; clear B6 hx6 hown6 hb6)
                | (go_simp; go_at_call 20; refine (HCR.out _ (bdrew BW.out)).mono ?_; rintro e w6 ⟨u6, rfl, hown6, hb6⟩; have B6 : Below w3.heap.size w3 w6 := (bdrew BW.out).trans (hb6.mono BW.out.size); have hx6 := HX3.out.below B6 HX3.out.lt; have x06 := hx6.cell 0; have xl6 := hx6.lt; simp only [List.getElem?_toArray, List.getElem?_cons_zero] at x06; have R6 := Lib.hid (RowAt.ofOwn hown6 (by rw [List.length_map, HN.out]) (vl_len _) (by rw [List.length_map, HN.out]; omega)); have HB6 := Lib.hid B6; clear B6 hx6 hown6 hb6)
                | (go_simp; go_at_call 37; refine (HF.out _ _ HB6.out R6.out).mono ?_; rintro e w7 ⟨rfl, hb7⟩; have HB7 := Lib.hid (bt2 HB6.out hb7); clear hb7))
            | fail "no way"
          all_goals
            go_wp2_with fail
            refine (HAW.out _ HB7.out).mono ?_
            rintro e w8 ⟨rfl, hb8⟩
            have HB8 := Lib.hid (bt2 HB7.out hb8)
            have hx8 := HX3.out.below HB8.out HX3.out.lt
            have x08 := hx8.cell 0
            have xl8 := hx8.lt
            simp only [List.getElem?_toArray, List.getElem?_cons_zero] at x08
            clear hb8 hx8
            go_wp2_with fail
            refine (HF2.out _ HB8.out).mono ?_
            rintro e w9 ⟨rfl, hb9⟩
            have HB9 := Lib.hid (bt2 HB8.out hb9)
            clear hb9
            go_wp2_with fail
            go_ret
            exact ⟨rfl, HB3.out.trans (HB9.out.mono HB3.out.size)⟩
        | true =>
          by_cases hlt : k < n
          · obtain ⟨uu, hu⟩ : ∃ uu, row[k]? = some uu := ⟨row[k]'(by rw [HN.out]; exact hlt), List.getElem?_eq_getElem (by rw [HN.out]; exact hlt)⟩
            obtain ⟨c, hc⟩ : ∃ c, cs[k]? = some c := ⟨cs[k]'(by rw [HM.out]; exact hlt), List.getElem?_eq_getElem (by rw [HM.out]; exact hlt)⟩
            obtain ⟨vb, vo, vcap, hv, _, _, hvl, hce⟩ := (HR3.out.keep BW.out).get (i := k) (x := uu.cells) (by simp [hu])
            simp only [List.length_map, HN.out, Value.slice.injEq, true_and] at hv
            obtain ⟨rfl, rfl⟩ := hv
            have q0 := hce 0 _ rfl
            simp only [Nat.add_zero] at q0
            obtain ⟨cb, co, ccap, hcv, _, _, hcl, k0, k1⟩ := (ColsAt.keep HC3.out BW.out).get hc
            simp only [HM.out, Value.slice.injEq, true_and] at hcv
            obtain ⟨rfl, rfl⟩ := hcv
            have hx7 := HX3.out.below BW.out HX3.out.lt
            have x17 := hx7.cell 1
            have xl7 := hx7.lt
            simp only [List.getElem?_toArray, List.getElem?_cons_zero, List.getElem?_cons_succ] at x17
            have hdk : decide ((k : Int) < 0) = false := by simp
            have hdn : decide ((n : Int) ≤ (k : Int)) = false := by simp; omega
            have hst := take_all_succ kindG (zip_get hu hc)
            have hp := HP.out
            have HST : Hid (decide (uu.k = c.k) = (rb && ((row.zip cs).take (k + 1)).all kindG)) := Lib.hid (by
              rw [hst, ← Bool.and_assoc, ← hp]
              rfl)
            clear hst hp hce hu hc hx7 k0
            go_wp2_with fail
            go_quiet (fail)
            go_wp2_with fail
            go_roundw
            case rel => exact ⟨k + 1, _, by omega, rfl, by go_num, Lib.hid (by first | exact HST.out | (rw [← HST.out]; simp)), Lib.hid (bdrewN BW.out _)⟩
            case measure => simp [intOf]; omega
          · obtain rfl : k = n := by omega
            have hG : fitsB row cs = true := by
              have hp := HP.out
              rw [List.take_of_length_le (by rw [List.length_zip, HN.out]; exact Nat.min_le_left _ _)] at hp
              rw [HFL.out, Bool.and_assoc, ← hp]
              simp
            have hf := HF1.out
            rw [hG] at hf
            simp only [↓reduceIte] at hf
            have HF := Lib.hid hf
            have hx7 := HX3.out.below BW.out HX3.out.lt
            have x07 := hx7.cell 0
            have xl7 := hx7.lt
            simp only [List.getElem?_toArray, List.getElem?_cons_zero] at x07
            have BW := BW
            clear hG hf hx7 HF1
            go_wp2_with fail
            first
              | go_region_law (first
                  | (go_simp; go_at_call 20; refine (HCR.out _ (bdrewN BW.out _)).mono ?_; rintro e w6 ⟨u6, rfl, hown6, hb6⟩; have B6 : Below w3.heap.size w3 w6 := (bdrewN BW.out _).trans (hb6.mono BW.out.size); have hx6 := HX3.out.below B6 HX3.out.lt; have x06 := hx6.cell 0; have xl6 := hx6.lt; simp only [List.getElem?_toArray, List.getElem?_cons_zero] at x06; have R6 := Lib.hid (RowAt.ofOwn hown6 (by rw [List.length_map, HN.out]) (vl_len _) (by rw [List.length_map, HN.out]; omega)); have HB6 := Lib.hid B6; clear B6 hx6 hown6 hb6)
                  | (go_simp; go_at_call 20; refine (HCR.out _ (bdrew BW.out)).mono ?_; rintro e w6 ⟨u6, rfl, hown6, hb6⟩; have B6 : Below w3.heap.size w3 w6 := (bdrew BW.out).trans (hb6.mono BW.out.size); have hx6 := HX3.out.below B6 HX3.out.lt; have x06 := hx6.cell 0; have xl6 := hx6.lt; simp only [List.getElem?_toArray, List.getElem?_cons_zero] at x06; have R6 := Lib.hid (RowAt.ofOwn hown6 (by rw [List.length_map, HN.out]) (vl_len _) (by rw [List.length_map, HN.out]; omega)); have HB6 := Lib.hid B6; clear B6 hx6 hown6 hb6)
                  | (go_simp; go_at_call 37; refine (HF.out _ _ HB6.out R6.out).mono ?_; rintro e w7 ⟨rfl, hb7⟩; have HB7 := Lib.hid (bt2 HB6.out hb7); clear hb7))
              | fail "no way"
            all_goals
              go_wp2_with fail
              refine (HAW.out _ HB7.out).mono ?_
              rintro e w8 ⟨rfl, hb8⟩
              have HB8 := Lib.hid (bt2 HB7.out hb8)
              have hx8 := HX3.out.below HB8.out HX3.out.lt
              have x08 := hx8.cell 0
              have xl8 := hx8.lt
              simp only [List.getElem?_toArray, List.getElem?_cons_zero] at x08
              clear hb8 hx8
              go_wp2_with fail
              refine (HF2.out _ HB8.out).mono ?_
              rintro e w9 ⟨rfl, hb9⟩
              have HB9 := Lib.hid (bt2 HB8.out hb9)
              clear hb9
              go_wp2_with fail
              go_ret
              exact ⟨rfl, HB3.out.trans (HB9.out.mono HB3.out.size)⟩
    · have hdq : ((n : Int) == (cn : Int)) = false := by simpa using fun e => hlen (by omega)
      have hG : fitsB row cs = false := fits_len (by rw [HN.out, HM.out]; exact hlen)
      clear hlen
      go_wp2_with fail
      go_loopw [7, 8] (fun s i wr => s = .bool false ∧ i = .int .i64 0 ∧ Hid (Below w3.heap.size w3 wr)) (fun _ _ _ => 0)
      case atStart => exact ⟨rfl, rfl, HBW⟩
      case round =>
        obtain ⟨rfl, rfl, BW⟩ := hrel
        have hf := HF1.out
        rw [hG] at hf
        simp only [Bool.false_eq_true, ↓reduceIte] at hf
        have HF := Lib.hid hf
        have hx7 := HX3.out.below BW.out HX3.out.lt
        have x07 := hx7.cell 0
        have xl7 := hx7.lt
        simp only [List.getElem?_toArray, List.getElem?_cons_zero] at x07
        have BW := BW
        clear hG hf hx7 HF1
        go_wp2_with fail
        first
          | go_region_law (first
              | (go_simp; go_at_call 20; refine (HCR.out _ (bdrewN BW.out _)).mono ?_; rintro e w6 ⟨u6, rfl, hown6, hb6⟩; have B6 : Below w3.heap.size w3 w6 := (bdrewN BW.out _).trans (hb6.mono BW.out.size); have hx6 := HX3.out.below B6 HX3.out.lt; have x06 := hx6.cell 0; have xl6 := hx6.lt; simp only [List.getElem?_toArray, List.getElem?_cons_zero] at x06; have R6 := Lib.hid (RowAt.ofOwn hown6 (by rw [List.length_map, HN.out]) (vl_len _) (by rw [List.length_map, HN.out]; omega)); have HB6 := Lib.hid B6; clear B6 hx6 hown6 hb6)
              | (go_simp; go_at_call 20; refine (HCR.out _ (bdrew BW.out)).mono ?_; rintro e w6 ⟨u6, rfl, hown6, hb6⟩; have B6 : Below w3.heap.size w3 w6 := (bdrew BW.out).trans (hb6.mono BW.out.size); have hx6 := HX3.out.below B6 HX3.out.lt; have x06 := hx6.cell 0; have xl6 := hx6.lt; simp only [List.getElem?_toArray, List.getElem?_cons_zero] at x06; have R6 := Lib.hid (RowAt.ofOwn hown6 (by rw [List.length_map, HN.out]) (vl_len _) (by rw [List.length_map, HN.out]; omega)); have HB6 := Lib.hid B6; clear B6 hx6 hown6 hb6)
              | (go_simp; go_at_call 37; refine (HF.out _ _ HB6.out R6.out).mono ?_; rintro e w7 ⟨rfl, hb7⟩; have HB7 := Lib.hid (bt2 HB6.out hb7); clear hb7))
          | fail "no way"
        all_goals
          go_wp2_with fail
          refine (HAW.out _ HB7.out).mono ?_
          rintro e w8 ⟨rfl, hb8⟩
          have HB8 := Lib.hid (bt2 HB7.out hb8)
          have hx8 := HX3.out.below HB8.out HX3.out.lt
          have x08 := hx8.cell 0
          have xl8 := hx8.lt
          simp only [List.getElem?_toArray, List.getElem?_cons_zero] at x08
          clear hb8 hx8
          go_wp2_with fail
          refine (HF2.out _ HB8.out).mono ?_
          rintro e w9 ⟨rfl, hb9⟩
          have HB9 := Lib.hid (bt2 HB8.out hb9)
          clear hb9
          go_wp2_with fail
          go_ret
          exact ⟨rfl, HB3.out.trans (HB9.out.mono HB3.out.size)⟩
  · have hq : (addE 1 [] ⟨nm.data.toList, cs⟩ != 0) = true := by simpa using hE
    rw [addL_same hE] at HS3 HFI
    have hfi1 := fun W u hW hr => HFI.out W u nm hW hr
    simp only [show fitD [] nm.data.toList row = 86 from rfl] at hfi1
    have HF1 := Lib.hid hfi1
    clear hE hfi1 HFI
    generalize addE 1 [] ⟨nm.data.toList, cs⟩ = ae at *
    generalize hN : row.length = n at *
    have HN := Lib.hid hN
    clear hN
    go_wp2_with fail
    first
      | go_region_law (first
          | (go_simp; go_at_call 20; refine (HCR.out _ (bdrew (Below.refl _ _))).mono ?_; rintro e w6 ⟨u6, rfl, hown6, hb6⟩; have B6 : Below w3.heap.size w3 w6 := bt2 (bdrew (Below.refl _ _)) hb6; have hx6 := HX3.out.below B6 HX3.out.lt; have x06 := hx6.cell 0; have xl6 := hx6.lt; simp only [List.getElem?_toArray, List.getElem?_cons_zero] at x06; have R6 := Lib.hid (RowAt.ofOwn hown6 (by rw [List.length_map, HN.out]) (vl_len _) (by rw [List.length_map, HN.out]; omega)); have HB6 := Lib.hid B6; clear B6 hx6 hown6 hb6)
          | (go_simp; go_at_call 37; refine (HF1.out _ _ HB6.out R6.out).mono ?_; rintro e w7 ⟨rfl, hb7⟩; have HB7 := Lib.hid (bt2 HB6.out hb7); clear hb7)
          | (go_simp; go_at_call 38; refine (HAW.out _ HB7.out).mono ?_; rintro e w8 ⟨rfl, hb8⟩; have HB8 := Lib.hid (bt2 HB7.out hb8); clear hb8))
      | fail "no way"
    all_goals
      go_wp2_with fail
      go_ret
      exact ⟨rfl, HB3.out.trans (HB8.out.mono HB3.out.size)⟩
theorem sfits_card (nm : ByteArray) (v rv : Value) (w : World) {cs : List Col} (h : ColsAt w v cs) (hl : cs.length ≤ 5864062014634) (hn : nm.size ≤ 140737488351232) (hc : ∀ c ∈ cs, c.x.length ≤ 140737488351232)
    {row : List Vl} (hrow : RowAt w rv 3 (row.map Vl.cells)) (hrl : row.length ≤ 4398046511104) (hg : Glob w) :
    Calls Tryd.prog 9 #[.agg #[.string nm, v], rv] w fun e w' => e = .returned (.bool true) ∧ Below w.heap.size w w' :=
  sfits_law w nm v cs rv row h hl (by omega) (fun c hm => by have := hc c hm; omega) hrow hrl hg
end Go.Proofs.YtgilflkgibfjgaaDoor
