/- QueryOnce, walked. -/
import Derived.Test.YtbehonaegfpmoaaGreatDoorQs2Z
import Derived.Test.YtbehonaegfpmoaaGreatDoorJq1Z
import Derived.Test.YtbehonaegfpmoaaGreatDoorGz
import Derived.Test.YtbehonaegfpmoaaGreatDoorFsZ
namespace Go.Proofs.YtbehonaegfpmoaaGreatDoor
open Go.RowKit
set_option linter.unusedVariables false

theorem ats_of_own {B : Nat} {w : World} {v : Value} {al : List Atm} (h : AtomsOwn B w v al) (hl : al.length ≤ 6) (ht : ∀ a ∈ al, a.ts.length ≤ 5) : AtomsAt w v al := by
  obtain ⟨rows, h1, h2⟩ := h
  exact atomsRow (B := B) h1 rfl h2 (by omega) (fun a ha => by have := ht a ha; omega)
theorem ats_nil (w : World) : AtomsAt w (.slice none 0 0) [] := ⟨[], RowAt.nil _ _, trivial⟩
theorem strs_nil (w : World) : StrsAt w (.slice none 0 0) [] := RowAt.nil _ _

set_option maxHeartbeats 4000000 in
set_option maxRecDepth 100000 in
theorem qonce_bad (s : ByteArray) (w : World) (a f : Int) (hg : Glob w) (hp : Calls Tryz.prog 17 #[.string s] w (QPost w (.bad a f))) (hf : f ≠ 0) (h0 : 0 ≤ a) (h1 : a ≤ s.size) :
    Calls Tryz.prog 6 #[.string s] w fun e w' => e = .returned (.bool true) ∧ Below w.heap.size w w' := by
  have HP := Lib.hid hp
  have HG := Lib.hid hg
  have q0 : (f != 0) = true := by simpa using hf
  have d0 : decide (0 ≤ a) = true := decide_eq_true h0
  have d1 : decide (a ≤ (s.size : Int)) = true := decide_eq_true h1
  clear hp hg hf
  go_enter Tryz.func6, Tryz.ntmps6
  go_wp2_with fail
  refine HP.out.mono ?_
  rintro e w1 ⟨rfl, hb1⟩
  have hb2 := balloc hb1 (.cells #[.string ⟨#[]⟩, .slice none 0 0, .slice none 0 0] 25)
  have HB2 := Lib.hid hb2
  have HS := Lib.hid (same_any (w1.alloc (.cells #[.string ⟨#[]⟩, .slice none 0 0, .slice none 0 0] 25)) ⟨#[]⟩ (.slice none 0 0) (.slice none 0 0) (.slice none 0 0) (.slice none 0 0) [] [] (strs_nil _) (strs_nil _) (ats_nil _) (ats_nil _))
  have HAW := Lib.hid (fun W (hW : Glob W) => awake09 W hW)
  clear hb1 hb2
  go_wp2_with fail
  refine HS.out.mono ?_
  rintro e w3 ⟨rfl, hb3⟩
  have hb4 := HB2.out.trans (hb3.mono HB2.out.size)
  have HB4 := Lib.hid hb4
  have HA4 := Lib.hid (HAW.out _ (HG.out.below hb4))
  clear hb3 hb4
  go_wp2_with fail
  refine HA4.out.mono ?_
  rintro e w5 ⟨rfl, hb5⟩
  have HB5 := Lib.hid (HB4.out.trans (hb5.mono HB4.out.size))
  clear hb5
  go_wp2_with fail
  go_ret
  exact ⟨by first | rfl | simp, HB5.out⟩

set_option maxHeartbeats 8000000 in
set_option maxRecDepth 100000 in
theorem qonce_good (s : ByteArray) (w : World) (q : Qry) (c : List Tok) (hg : Glob w) (hp : Calls Tryz.prog 17 #[.string s] w (QPost w (.ok q c))) (hk : RightQ q) (hr : RangeQ q) :
    Calls Tryz.prog 6 #[.string s] w fun e w' => e = .returned (.bool true) ∧ Below w.heap.size w w' := by
  obtain ⟨nm, hd, al⟩ := q
  obtain ⟨he, hq⟩ := qT_back hk hr
  obtain ⟨l1, l2, _, _⟩ := qT_len hk hr
  have hnl := (name_len16 hk.name).2
  simp only at hnl
  have hnz : (⟨nm.toArray⟩ : ByteArray).size ≤ 140737488355328 := by
    have : (⟨nm.toArray⟩ : ByteArray).size = nm.length := by simp [ByteArray.size]
    omega
  have hdl : hd.length ≤ 30 := hk.heads
  have hal : al.length ≤ 6 := hk.few
  have hat : ∀ a ∈ al, a.ts.length ≤ 5 := hk.thin
  have hdx : ∀ s ∈ hd, s.length ≤ 140737488355328 := fun s hs => by have := (name_len16 (hk.head s hs)).2; omega
  have hlx : LensA al := fun a ha => ⟨by have := (name_len16 (hk.rel a ha)).2; omega, fun t ht => by
    by_cases hx : t.x = []
    · rw [hx]; simp
    · have := (name_len16 (hk.var a ha t ht hx).1).2; omega⟩
  have hnd : (⟨nm.toArray⟩ : ByteArray).data.toList = nm := by simp
  have hc0 := right_chkQ hk
  have hsh := fun W hv av (h1 : StrsAt W hv hd) (h2 : AtomsAt W av al) (hG : Glob W) => qshow_good W ⟨nm.toArray⟩ hv av hd al h1 h2 (by rw [hnd]; exact hk) (by rw [hnd]; exact hr) hG
  rw [hnd] at hsh
  have hck := fun W hv av (h1 : StrsAt W hv hd) (h2 : AtomsAt W av al) => shape_any W ⟨nm.toArray⟩ hv av hd al h1 h2 hnz hdx hlx
  rw [hnd, hc0] at hck
  have hss : (⟨(qT ⟨nm, hd, al⟩).toArray⟩ : ByteArray).data.toList = qT ⟨nm, hd, al⟩ := by simp
  have hsz : (⟨(qT ⟨nm, hd, al⟩).toArray⟩ : ByteArray).size = (qT ⟨nm, hd, al⟩).length := by simp [ByteArray.size]
  have hpp := fun W (hW : Glob W) => parse_line ⟨(qT ⟨nm, hd, al⟩).toArray⟩ W (by omega) hW (by rw [hss]; exact he)
  rw [hss, hq] at hpp
  have HSH := Lib.hid hsh
  have HCK := Lib.hid hck
  have HPP := Lib.hid hpp
  have HP := Lib.hid hp
  have HG := Lib.hid hg
  have HAT := Lib.hid hat
  have HAW := Lib.hid (fun W (hW : Glob W) => awake09 W hW)
  clear hsh hck hpp hp hg he hq l1 l2 hk hr hnl hnz hdx hlx hnd hc0 hss hsz hat
  generalize qT ⟨nm, hd, al⟩ = ss at *
  go_enter Tryz.func6, Tryz.ntmps6
  go_wp2_with fail
  refine HP.out.mono ?_
  rintro e w1 ⟨hv, av, rfl, ho1, ha1, hb1⟩
  have hs1 : StrsAt w1 hv hd := ho1.strs (by simp only; omega)
  have ht1 : AtomsAt w1 av al := ats_of_own ha1 hal HAT.out
  obtain ⟨h1a, h1c, rfl, _, _⟩ := hs1.form
  obtain ⟨a1a, a1c, rfl, _, _⟩ := ht1.form
  have bk : Below w1.heap.size w1 (w1.alloc (.cells #[.string ⟨nm.toArray⟩, .slice h1a hd.length h1c, .slice a1a al.length a1c] 25)) := balloc (Below.refl _ _) _
  have hbb := balloc hb1 (.cells #[.string ⟨nm.toArray⟩, .slice h1a hd.length h1c, .slice a1a al.length a1c] 25)
  have HB1 := Lib.hid hbb
  have HX1 := Lib.hid (Blk.new w1 25 #[.string ⟨nm.toArray⟩, .slice h1a hd.length h1c, .slice a1a al.length a1c])
  have HV1 := Lib.hid (hs1.keep bk)
  have HT1 := Lib.hid (ht1.keep bk)
  have HS1 := Lib.hid (HSH.out _ _ _ HV1.out HT1.out (HG.out.below hbb))
  clear ho1 ha1 hb1 hs1 ht1 bk hbb
  go_wp2_with fail
  refine HS1.out.mono ?_
  rintro e w2 ⟨rfl, hb2⟩
  have hbb := HB1.out.trans (hb2.mono HB1.out.size)
  have HB2 := Lib.hid hbb
  have HX2 := Lib.hid (HX1.out.below hb2 HX1.out.lt)
  have HV2 := Lib.hid (HV1.out.keep hb2)
  have HT2 := Lib.hid (HT1.out.keep hb2)
  have HP2 := Lib.hid (HPP.out _ (HG.out.below hbb))
  clear hb2 hbb
  go_wp2_with fail
  refine HP2.out.mono ?_
  rintro e w3 ⟨hv3, av3, rfl, ho3, ha3, hb3⟩
  have hs3 : StrsAt w3 hv3 hd := ho3.strs (by simp only; omega)
  have ht3 : AtomsAt w3 av3 al := ats_of_own ha3 hal HAT.out
  obtain ⟨h3a, h3c, rfl, _, _⟩ := hs3.form
  obtain ⟨a3a, a3c, rfl, _, _⟩ := ht3.form
  have bk : Below w3.heap.size w3 (w3.alloc (.cells #[.string ⟨nm.toArray⟩, .slice h3a hd.length h3c, .slice a3a al.length a3c] 25)) := balloc (Below.refl _ _) _
  have hb4 : Below w2.heap.size w2 (w3.alloc (.cells #[.string ⟨nm.toArray⟩, .slice h3a hd.length h3c, .slice a3a al.length a3c] 25)) := balloc hb3 _
  have hbb := HB2.out.trans (hb4.mono HB2.out.size)
  have HB4 := Lib.hid hbb
  have HX4 := Lib.hid (HX2.out.below hb4 HX2.out.lt)
  have HV4 := Lib.hid (HV2.out.keep hb4)
  have HT4 := Lib.hid (HT2.out.keep hb4)
  have HY4 := Lib.hid (Blk.new w3 25 #[.string ⟨nm.toArray⟩, .slice h3a hd.length h3c, .slice a3a al.length a3c])
  have HU4 := Lib.hid (hs3.keep bk)
  have HZ4 := Lib.hid (ht3.keep bk)
  have HA4 := Lib.hid (HAW.out _ (HG.out.below hbb))
  clear ho3 ha3 hs3 ht3 bk hb3 hb4 hbb
  go_wp2_with fail
  refine HA4.out.mono ?_
  rintro e w5 ⟨rfl, hb5⟩
  have hx5 := HX4.out.below hb5 HX4.out.lt
  have hy5 := HY4.out.below hb5 HY4.out.lt
  have x0 := hx5.cell 0
  have x1 := hx5.cell 1
  have x2 := hx5.cell 2
  have xl := hx5.lt
  simp only [List.getElem?_toArray, List.getElem?_cons_zero, List.getElem?_cons_succ] at x0 x1 x2
  have HX5 := Lib.hid hx5
  have HY5 := Lib.hid hy5
  have HV5 := Lib.hid (HV4.out.keep hb5)
  have HT5 := Lib.hid (HT4.out.keep hb5)
  have HU5 := Lib.hid (HU4.out.keep hb5)
  have HZ5 := Lib.hid (HZ4.out.keep hb5)
  have HB5 := Lib.hid (HB4.out.trans (hb5.mono HB4.out.size))
  have HC5 := Lib.hid (HCK.out _ _ _ HV5.out HT5.out)
  clear hx5 hy5 hb5
  go_wp2_with fail
  refine HC5.out.mono ?_
  rintro e w6 ⟨rfl, hb6⟩
  have hx6 := HX5.out.below hb6 HX5.out.lt
  have hy6 := HY5.out.below hb6 HY5.out.lt
  have x0 := hx6.cell 0
  have x1 := hx6.cell 1
  have x2 := hx6.cell 2
  have xl := hx6.lt
  have y0 := hy6.cell 0
  have y1 := hy6.cell 1
  have y2 := hy6.cell 2
  have yl := hy6.lt
  simp only [List.getElem?_toArray, List.getElem?_cons_zero, List.getElem?_cons_succ] at x0 x1 x2 y0 y1 y2
  have HSM := Lib.hid (same_any w6 ⟨nm.toArray⟩ _ _ _ _ hd al (HU5.out.keep hb6) (HV5.out.keep hb6) (HZ5.out.keep hb6) (HT5.out.keep hb6))
  have HB6 := Lib.hid (HB5.out.trans (hb6.mono HB5.out.size))
  clear hb6 hx6 hy6
  go_wp2_with fail
  refine HSM.out.mono ?_
  rintro e w7 ⟨rfl, hb7⟩
  have HB7 := Lib.hid (HB6.out.trans (hb7.mono HB6.out.size))
  clear hb7
  go_wp2_with fail
  go_ret
  exact ⟨by first | rfl | simp, HB7.out⟩

theorem qonce_law (s : ByteArray) (w : World) (hs : s.size ≤ 140737488351232) (hg : Glob w) :
    Calls Tryz.prog 6 #[.string s] w fun e w' => e = .returned (.bool true) ∧ Below w.heap.size w w' := by
  by_cases he : (lexR s.data.toList).e = 0
  · have hp := parse_line s w (by omega) hg he
    have hsu := queryT_sure (lex_toksQ he (lex_ended he).1)
    cases hq : queryT (lexR s.data.toList).ts with
    | bad a f =>
      rw [hq] at hp hsu
      exact qonce_bad s w a f hg hp hsu.2.2 hsu.1 hsu.2.1
    | ok q c =>
      rw [hq] at hp hsu
      exact qonce_good s w q c hg hp hsu.1 hsu.2
  · have hp := parse_fault s w (by omega) hg he
    have := lex_placeQ s.data.toList he
    exact qonce_bad s w _ _ hg hp he this.1 this.2
theorem qonce_card (s : ByteArray) (w : World) (hs : s.size ≤ 140737488351232) (hg : Glob w) :
    Calls Tryz.prog 6 #[.string s] w fun e w' => e = .returned (.bool true) ∧ Below w.heap.size w w' := qonce_law s w hs hg
end Go.Proofs.YtbehonaegfpmoaaGreatDoor
