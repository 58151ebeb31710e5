/- SchemaOnce, walked. -/
import Derived.Test.YtbehonaegfpmoaaDoorPc8Z
import Derived.Test.YtbehonaegfpmoaaDoorSq2Z
namespace Go.Proofs.YtbehonaegfpmoaaDoor
open Go.RowKit
set_option linter.unusedVariables false

set_option maxHeartbeats 4000000 in
set_option maxRecDepth 100000 in
theorem sonce_bad (s : ByteArray) (w : World) (a f : Int) (hg : Glob w) (hp : Calls Tryd.prog 32 #[.string s] w (SPost w (.bad a f))) (hf : f ≠ 0) (h0 : 0 ≤ a) (h1 : a ≤ s.size) :
    Calls Tryd.prog 10 #[.string s] w fun e w' => e = .returned (.bool true) ∧ Below w.heap.size w w' := by
  have HP := Lib.hid hp
  have HG := Lib.hid hg
  have q0 : (f != 0) = true := by simpa using hf
  have d0 : decide (0 ≤ a) = true := decide_eq_true h0
  have d1 : decide (a ≤ (s.size : Int)) = true := decide_eq_true h1
  clear hp hg hf
  go_enter Tryd.func10, Tryd.ntmps10
  go_wp2_with fail
  refine HP.out.mono ?_
  rintro e w1 ⟨rfl, hb1⟩
  have hb2 := balloc hb1 (.cells #[.string ⟨#[]⟩, .slice none 0 0] 58)
  have HB2 := Lib.hid hb2
  have HAW := Lib.hid (awake08 _ (HG.out.below hb2))
  clear hb1 hb2
  go_wp2_with fail
  refine HAW.out.mono ?_
  rintro e w3 ⟨rfl, hb3⟩
  have HB3 := Lib.hid (HB2.out.trans (hb3.mono HB2.out.size))
  clear hb3
  go_wp2_with fail
  go_ret
  exact ⟨by first | rfl | simp, HB3.out⟩

set_option maxHeartbeats 4000000 in
set_option maxRecDepth 100000 in
theorem sonce_good (s : ByteArray) (w : World) (q : Rln) (c : List Tok) (hg : Glob w) (hp : Calls Tryd.prog 32 #[.string s] w (SPost w (.ok q c))) (hk : chkC q.name q.cols = 0) :
    Calls Tryd.prog 10 #[.string s] w fun e w' => e = .returned (.bool true) ∧ Below w.heap.size w w' := by
  obtain ⟨nm, cs⟩ := q
  simp only at hk
  obtain ⟨he, hq⟩ := show_back hk
  obtain ⟨l1, l2⟩ := show_len hk
  obtain ⟨k1, k2, k3, k4⟩ := chkC_ok hk
  have hnl := nm_len k1
  have hnz : (⟨nm.toArray⟩ : ByteArray).size ≤ 140737488355328 := by
    have : (⟨nm.toArray⟩ : ByteArray).size = nm.length := by simp [ByteArray.size]
    omega
  have hcx : ∀ c ∈ cs, c.x.length ≤ 140737488355328 := fun c hc => by
    have := nm_len (k2 c hc).1
    omega
  have hnd : (⟨nm.toArray⟩ : ByteArray).data.toList = nm := by simp
  have hsh := fun W u (hW : ColsAt W u cs) => show_good W ⟨nm.toArray⟩ u cs hW (by rw [hnd]; exact hk)
  rw [hnd] at hsh
  have hck := fun W u (hW : ColsAt W u cs) => check_any W ⟨nm.toArray⟩ u cs hW hnz hcx
  rw [hnd, hk] at hck
  have hss : (⟨(showC nm cs).toArray⟩ : ByteArray).data.toList = showC nm cs := by simp
  have hsz : (⟨(showC nm cs).toArray⟩ : ByteArray).size = (showC nm cs).length := by simp [ByteArray.size]
  have hpp := fun W (hW : Glob W) => sch_line ⟨(showC nm cs).toArray⟩ W (by omega) hW (by rw [hss]; exact he)
  rw [hss, hq] at hpp
  have HSH := Lib.hid hsh
  have HCK := Lib.hid hck
  have HPP := Lib.hid hpp
  have HP := Lib.hid hp
  have HG := Lib.hid hg
  clear hsh hck hpp hp hg he hq l1 l2 k1 k2 k4 hnl hnz hcx hnd hss hsz hk
  generalize showC nm cs = ss at *
  go_enter Tryd.func10, Tryd.ntmps10
  go_wp2_with fail
  refine HP.out.mono ?_
  rintro e w1 ⟨cv, rfl, hown, hb1⟩
  have hc1 : ColsAt w1 cv cs := ColsOwn.at hown (by omega)
  obtain ⟨ca, cap, rfl, _, _⟩ := hc1.form
  have bk : Below w1.heap.size w1 (w1.alloc (.cells #[.string ⟨nm.toArray⟩, .slice ca cs.length cap] 58)) := balloc (Below.refl _ _) _
  have HB1 := Lib.hid (balloc hb1 (.cells #[.string ⟨nm.toArray⟩, .slice ca cs.length cap] 58))
  have HX1 := Lib.hid (Blk.new w1 58 #[.string ⟨nm.toArray⟩, .slice ca cs.length cap])
  have hv1 := hc1.keep bk
  have HV1 := Lib.hid hv1
  have HS1 := Lib.hid (HSH.out _ _ hv1)
  clear hown hc1 bk hb1 hv1
  go_wp2_with fail
  refine HS1.out.mono ?_
  rintro e w2 ⟨rfl, hb2⟩
  have hbb := HB1.out.trans (hb2.mono HB1.out.size)
  have HB2 := Lib.hid hbb
  have HX2 := Lib.hid (HX1.out.below hb2 HX1.out.lt)
  have HV2 := Lib.hid (HV1.out.keep hb2)
  have HP2 := Lib.hid (HPP.out _ (HG.out.below hbb))
  clear hb2 hbb
  go_wp2_with fail
  refine HP2.out.mono ?_
  rintro e w3 ⟨cv3, rfl, hown3, hb3⟩
  have hc3 : ColsAt w3 cv3 cs := ColsOwn.at hown3 (by omega)
  obtain ⟨ca3, cap3, rfl, _, _⟩ := hc3.form
  have bk : Below w3.heap.size w3 (w3.alloc (.cells #[.string ⟨nm.toArray⟩, .slice ca3 cs.length cap3] 58)) := balloc (Below.refl _ _) _
  have hb4 : Below w2.heap.size w2 (w3.alloc (.cells #[.string ⟨nm.toArray⟩, .slice ca3 cs.length cap3] 58)) := balloc hb3 _
  have hbb := HB2.out.trans (hb4.mono HB2.out.size)
  have HB4 := Lib.hid hbb
  have HX4 := Lib.hid (HX2.out.below hb4 HX2.out.lt)
  have HV4 := Lib.hid (HV2.out.keep hb4)
  have HY4 := Lib.hid (Blk.new w3 58 #[.string ⟨nm.toArray⟩, .slice ca3 cs.length cap3])
  have HU4 := Lib.hid (hc3.keep bk)
  have HAW := Lib.hid (awake08 _ (HG.out.below hbb))
  clear hown3 hc3 bk hb3 hb4 hbb
  go_wp2_with fail
  refine HAW.out.mono ?_
  rintro e w5 ⟨rfl, hb5⟩
  have hx5 := HX4.out.below hb5 HX4.out.lt
  have hy5 := HY4.out.below hb5 HY4.out.lt
  have x0 := hx5.cell 0
  have x1 := hx5.cell 1
  have xl := hx5.lt
  simp only [List.getElem?_toArray, List.getElem?_cons_zero, List.getElem?_cons_succ] at x0 x1
  have HX5 := Lib.hid hx5
  have HY5 := Lib.hid hy5
  have hv5 := HV4.out.keep hb5
  have HV5 := Lib.hid hv5
  have HU5 := Lib.hid (HU4.out.keep hb5)
  have HB5 := Lib.hid (HB4.out.trans (hb5.mono HB4.out.size))
  have HC5 := Lib.hid (HCK.out _ _ hv5)
  clear hx5 hy5 hv5 hb5
  go_wp2_with fail
  refine HC5.out.mono ?_
  rintro e w6 ⟨rfl, hb6⟩
  have hx6 := HX5.out.below hb6 HX5.out.lt
  have hy6 := HY5.out.below hb6 HY5.out.lt
  have x0 := hx6.cell 0
  have x1 := hx6.cell 1
  have xl := hx6.lt
  have y0 := hy6.cell 0
  have y1 := hy6.cell 1
  have yl := hy6.lt
  simp only [List.getElem?_toArray, List.getElem?_cons_zero, List.getElem?_cons_succ] at x0 x1 y0 y1
  have HSM := Lib.hid (sameRel_any w6 ⟨nm.toArray⟩ _ _ cs (HU5.out.keep hb6) (HV5.out.keep hb6))
  have HB6 := Lib.hid (HB5.out.trans (hb6.mono HB5.out.size))
  clear hb6 hx6 hy6
  go_wp2_with fail
  refine HSM.out.mono ?_
  rintro e w7 ⟨rfl, hb7⟩
  have HB7 := Lib.hid (HB6.out.trans (hb7.mono HB6.out.size))
  clear hb7
  go_wp2_with fail
  go_ret
  exact ⟨by first | rfl | simp, HB7.out⟩

theorem sonce_law (s : ByteArray) (w : World) (hs : s.size ≤ 140737488351232) (hg : Glob w) :
    Calls Tryd.prog 10 #[.string s] w fun e w' => e = .returned (.bool true) ∧ Below w.heap.size w w' := by
  by_cases he : (lexR s.data.toList).e = 0
  · have hp := sch_line s w (by omega) hg he
    have hsu := schT_sure (lex_toks he (lex_ended he).1)
    cases hq : schT (lexR s.data.toList).ts with
    | bad a f =>
      rw [hq] at hp hsu
      exact sonce_bad s w a f hg hp hsu.2.2 hsu.1 hsu.2.1
    | ok q c =>
      rw [hq] at hp hsu
      exact sonce_good s w q c hg hp hsu
  · have hp := sch_fault s w (by omega) hg he
    have := lex_place s.data.toList he
    exact sonce_bad s w _ _ hg hp he this.1 this.2
theorem sonce_card (s : ByteArray) (w : World) (hs : s.size ≤ 140737488351232) (hg : Glob w) :
    Calls Tryd.prog 10 #[.string s] w fun e w' => e = .returned (.bool true) ∧ Below w.heap.size w w' := sonce_law s w hs hg
end Go.Proofs.YtbehonaegfpmoaaDoor
