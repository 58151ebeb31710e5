/- query.Shape, walked. -/
import Derived.Test.YtgilflkgibfjgaaGreatDoorQs0Z
namespace Go.Proofs.YtgilflkgibfjgaaGreatDoor
open Go.RowKit
set_option linter.unusedVariables false

theorem any_thin {al : List Atm} (h : al.any wideA = false) : ∀ a ∈ al, a.ts.length ≤ 5 := fun a ha => by
  have := List.any_eq_false.1 h a ha
  unfold wideA at this
  simpa using this

set_option maxHeartbeats 16000000 in
set_option maxRecDepth 100000 in
theorem shape_any (w : World) (nm : ByteArray) (hv av : Value) (hd : List (List UInt8)) (al : List Atm) (hh : StrsAt w hv hd) (h : AtomsAt w av al) (hn : nm.size ≤ 140737488355328) (hl : ∀ s ∈ hd, s.length ≤ 140737488355328) (ha : LensA al) :
    Calls Tryz.prog 18 #[.agg #[.string nm, hv, av]] w fun e w' => e = .returned (.int .i64 (chkQ ⟨nm.data.toList, hd, al⟩)) ∧ Below w.heap.size w w' := by
  have hmf : ∀ (fn : Fn) (first cap : Array Value) (w : World), (Instr.makeFunc fn first cap).run Tryz.prog w = .ok (.func fn first cap) w := fun _ _ _ _ => rfl
  have hnot : ∀ (x : Bool) (w : World), (Op.unary .not (.bool x)).run Tryz.prog w = .ok (.bool (!x)) w := fun _ _ => rfl
  obtain ⟨w0, hw0⟩ : ∃ w0, w.alloc (.cells #[.string nm, hv, av] 34) = w0 := ⟨_, rfl⟩
  have hbox := Blk.new w 34 #[.string nm, hv, av]
  have hb0 : Below w.heap.size w (w.alloc (.cells #[.string nm, hv, av] 34)) := balloc (Below.refl _ _) _
  have hwl : w.heap.size < w0.heap.size := by rw [← hw0]; simp
  rw [hw0] at hbox hb0
  have HN := Lib.hid (fun (W : World) (hW : Below w0.heap.size w0 W) => badName_any W nm hv av hd al (hh.keep (hb0.trans (hW.mono hb0.size))) (h.keep (hb0.trans (hW.mono hb0.size))) hn hl ha)
  have HT := Lib.hid (fun (W : World) (hW : Below w0.heap.size w0 W) => shapeAny_any 59 (enters_of Tryz.func59 (by kernel_rfl) rfl) (fun a => a.ts.any badTm) W w.heap.size _ _ _ al (hbox.below hW hwl) (h.keep (hb0.trans (hW.mono hb0.size))) (fun W a tv hr => badTerms_any W a tv hr))
  have HV := Lib.hid (fun (W : World) (hW : Below w0.heap.size w0 W) => shapeAny_any 62 (enters_of Tryz.func62 (by kernel_rfl) rfl) wideA W w.heap.size _ _ _ al (hbox.below hW hwl) (h.keep (hb0.trans (hW.mono hb0.size))) (fun W a tv hr => wide_any W a tv hr))
  have HD := Lib.hid (fun (W : World) (hW : Below w0.heap.size w0 W) => doubled_any W hv hd (hh.keep (hb0.trans (hW.mono hb0.size))))
  have HU := Lib.hid (fun (W : World) (hW : Below w0.heap.size w0 W) (h1 : al.length ≤ 6) (h2 : al.any wideA = false) => unsafeVar_any W nm hv av hd al (hh.keep (hb0.trans (hW.mono hb0.size))) (h.keep (hb0.trans (hW.mono hb0.size))) (by omega) (by have := tsum_thin al (any_thin h2); omega))
  have HX := Lib.hid (fun (W : World) (hW : Below w0.heap.size w0 W) => hbox.below hW hwl)
  obtain ⟨ad, cap, rfl, _, _⟩ := h.form
  obtain ⟨hda, hdc, rfl, _, _⟩ := hh.form
  obtain ⟨Q, hQ⟩ : ∃ Q, Q = chkQ ⟨nm.data.toList, hd, al⟩ := ⟨_, rfl⟩
  rw [← hQ]
  unfold chkQ at hQ
  simp only at hQ
  have HW0 := Lib.hid hw0
  have HB0 := Lib.hid hb0
  have x0 := hbox.cell 0
  have x1 := hbox.cell 1
  have x2 := hbox.cell 2
  simp only [List.getElem?_toArray, List.getElem?_cons_zero, List.getElem?_cons_succ] at x0 x1 x2
  clear h hh hn hl ha hbox hb0 hw0
  generalize badNq ⟨nm.data.toList, hd, al⟩ = b1 at *
  generalize (al.any fun a => a.ts.any badTm) = b2 at *
  generalize al.any wideA = b3 at *
  generalize dupI hd = d1 at *
  generalize lackI (qVars al) hd = d2 at *
  generalize al.length = n at *
  generalize hd.length = hn at *
  have HQ := Lib.hid hQ
  clear hQ
  go_enter Tryz.func18, Tryz.ntmps18
  go_wp2_with fail
  rw [HW0.out]
  refine (HN.out _ (Below.refl _ _)).mono ?_
  rintro e w1 ⟨rfl, hb1⟩
  have H1 := Lib.hid hb1
  have BB := Lib.hid (HB0.out.trans (hb1.mono HB0.out.size))
  have hq := HQ.out
  cases b1 with
  | true =>
    rw [if_pos rfl] at hq
    have HQ := Lib.hid hq
    clear hq hb1
    go_wp2_with fail
    go_ret
    exact ⟨by rw [HQ.out]; rfl, BB.out⟩
  | false =>
  rw [if_neg (by decide)] at hq
  have HQ := Lib.hid hq
  clear hq hb1
  go_wp2_with fail
  refine (HT.out _ H1.out).mono ?_
  rintro e w2 ⟨rfl, hb2⟩
  have H2 := Lib.hid (H1.out.trans (hb2.mono H1.out.size))
  have BB := Lib.hid (HB0.out.trans (H2.out.mono HB0.out.size))
  have hx := HX.out _ H2.out
  have x0 := hx.cell 0
  have x1 := hx.cell 1
  have x2 := hx.cell 2
  have xl := hx.lt
  simp only [List.getElem?_toArray, List.getElem?_cons_zero, List.getElem?_cons_succ] at x0 x1 x2
  have hq := HQ.out
  cases b2 with
  | true =>
    rw [if_pos rfl] at hq
    have HQ := Lib.hid hq
    clear hq hb2 hx
    go_wp2_with fail
    go_ret
    exact ⟨by rw [HQ.out]; rfl, BB.out⟩
  | false =>
  rw [if_neg (by decide)] at hq
  have HQ := Lib.hid hq
  clear hq hb2 hx
  by_cases hz : n = 0
  · have hq := HQ.out
    rw [if_pos (.inl hz)] at hq
    have HQ := Lib.hid hq
    clear hq
    subst hz
    go_wp2_with fail
    go_ret
    exact ⟨by rw [HQ.out]; rfl, BB.out⟩
  by_cases h6 : 6 < n
  · have hq := HQ.out
    rw [if_pos (.inr h6)] at hq
    have HQ := Lib.hid hq
    have hd : (6 : Int) < (n : Int) := by omega
    have hz2 : ¬ ((n : Int) = 0) := by omega
    clear hq
    go_wp2_with fail
    go_ret
    exact ⟨by rw [HQ.out]; rfl, BB.out⟩
  have hq := HQ.out
  rw [if_neg (by omega)] at hq
  have HQ := Lib.hid hq
  have hd1 : ¬ ((6 : Int) < (n : Int)) := by omega
  have hd2 : (n : Int) ≤ 6 := by omega
  have hz2 : ¬ ((n : Int) = 0) := by omega
  have hz3 : ((n : Int) == 0) = false := by simp; omega
  have hd3 : ¬ 6 < n := h6
  clear hq
  go_wp2_with fail
  refine (HV.out _ H2.out).mono ?_
  rintro e w3 ⟨rfl, hb3⟩
  have H3 := Lib.hid (H2.out.trans (hb3.mono H2.out.size))
  have BB := Lib.hid (HB0.out.trans (H3.out.mono HB0.out.size))
  have hx := HX.out _ H3.out
  have x0 := hx.cell 0
  have x1 := hx.cell 1
  have x2 := hx.cell 2
  have xl := hx.lt
  simp only [List.getElem?_toArray, List.getElem?_cons_zero, List.getElem?_cons_succ] at x0 x1 x2
  have hq := HQ.out
  cases b3 with
  | true =>
    rw [if_pos rfl] at hq
    have HQ := Lib.hid hq
    clear hq hb3 hx
    go_wp2_with fail
    go_ret
    exact ⟨by rw [HQ.out]; rfl, BB.out⟩
  | false =>
  rw [if_neg (by decide)] at hq
  have HQ := Lib.hid hq
  clear hq hb3 hx
  go_wp2_with fail
  refine (HD.out _ H3.out).mono ?_
  rintro e w4 ⟨rfl, rfl⟩
  by_cases hd0 : 0 ≤ d1
  · have hq := HQ.out
    rw [if_pos hd0] at hq
    have HQ := Lib.hid hq
    clear hq
    go_wp2_with fail
    go_ret
    exact ⟨by rw [HQ.out]; rfl, BB.out⟩
  have hq := HQ.out
  rw [if_neg hd0] at hq
  have HQ := Lib.hid hq
  clear hq
  go_wp2_with fail
  refine (HU.out _ H3.out (by omega) (by trivial)).mono ?_
  rintro e w5 ⟨rfl, hb5⟩
  have H5 := Lib.hid (H3.out.trans (hb5.mono H3.out.size))
  have BB := Lib.hid (HB0.out.trans (H5.out.mono HB0.out.size))
  clear hb5
  by_cases hu0 : 0 ≤ d2
  · have hq := HQ.out
    rw [if_pos hu0] at hq
    have HQ := Lib.hid hq
    clear hq
    go_wp2_with fail
    go_ret
    exact ⟨by rw [HQ.out]; rfl, BB.out⟩
  have hq := HQ.out
  rw [if_neg hu0] at hq
  have HQ := Lib.hid hq
  clear hq
  go_wp2_with fail
  go_ret
  exact ⟨by rw [HQ.out]; rfl, BB.out⟩
end Go.Proofs.YtgilflkgibfjgaaGreatDoor
