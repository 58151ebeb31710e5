/- osierref08.Check, Show, walked. -/
import Derived.Test.YtbehonaegfpmoaaDoorSq1Z
import Derived.Test.YtbehonaegfpmoaaDoorLf
import Derived.Deep.QuietTactic
import Derived.BigQuiet
namespace Go.Proofs.YtbehonaegfpmoaaDoor
open Go.RowKit
set_option linter.unusedVariables false

theorem chk_cases (nm : List UInt8) (cs : List Col) :
    (isNameB nm = false → chkC nm cs = 72) ∧
    (isNameB nm = true → ∀ c ∈ cs, isNameB c.x = false → chkC nm cs = 72) ∧
    (isNameB nm = true → (∀ c ∈ cs, isNameB c.x = true) → 5 < cs.length → chkC nm cs = 81) ∧
    (isNameB nm = true → (∀ c ∈ cs, isNameB c.x = true) → ¬ 5 < cs.length → ∀ c ∈ cs, badK c = true → chkC nm cs = 83) ∧
    (isNameB nm = true → (∀ c ∈ cs, isNameB c.x = true) → ¬ 5 < cs.length → (∀ c ∈ cs, badK c = false) → ∀ k : Nat, againI cs = (k : Int) → chkC nm cs = 82) ∧
    (isNameB nm = true → (∀ c ∈ cs, isNameB c.x = true) → ¬ 5 < cs.length → (∀ c ∈ cs, badK c = false) → againI cs = -1 → chkC nm cs = 0) := by
  have hno : (∀ c ∈ cs, isNameB c.x = true) → (cs.any fun c => !isNameB c.x) = false := fun h => List.any_eq_false.2 fun c hc => by rw [h c hc]; decide
  have hkn : (∀ c ∈ cs, badK c = false) → cs.any badK = false := fun h => List.any_eq_false.2 fun c hc => by rw [h c hc]; decide
  unfold chkC
  refine ⟨fun h => by rw [if_pos h], fun h c hc hx => ?_, fun h h1 h2 => ?_, fun h h1 h2 c hc hx => ?_, fun h h1 h2 h3 k hk => ?_, fun h h1 h2 h3 hk => ?_⟩
  · have : (cs.any fun c => !isNameB c.x) = true := List.any_eq_true.2 ⟨c, hc, by rw [hx]; rfl⟩
    rw [if_neg (by rw [h]; decide), if_pos this]
  · rw [if_neg (by rw [h]; decide), if_neg (by rw [hno h1]; decide), if_pos h2]
  · have : cs.any badK = true := List.any_eq_true.2 ⟨c, hc, hx⟩
    rw [if_neg (by rw [h]; decide), if_neg (by rw [hno h1]; decide), if_neg h2, if_pos this]
  · rw [if_neg (by rw [h]; decide), if_neg (by rw [hno h1]; decide), if_neg h2, if_neg (by rw [hkn h3]; decide), if_pos (by rw [hk]; exact Int.natCast_nonneg k)]
  · rw [if_neg (by rw [h]; decide), if_neg (by rw [hno h1]; decide), if_neg h2, if_neg (by rw [hkn h3]; decide), if_neg (by rw [hk]; decide)]

set_option maxHeartbeats 8000000 in
set_option maxRecDepth 100000 in
theorem refCheck_any (w : World) (nm : ByteArray) (v : Value) (cs : List Col) (h : ColsAt w v cs) (hn : nm.size ≤ 140737488355328) (hc : ∀ c ∈ cs, c.x.length ≤ 140737488355328) :
    Calls Tryd.prog 38 #[.agg #[.string nm, v]] w fun e w' => e = .returned (.int .i64 (chkC nm.data.toList cs)) ∧ Below w.heap.size w w' := by
  have hnot : ∀ (x : Bool) (w : World), (Op.unary .not (.bool x)).run Tryd.prog w = .ok (.bool (!x)) w := fun _ _ => rfl
  obtain ⟨q1, q2, q3, q4, q5, q6⟩ := chk_cases nm.data.toList cs
  have hag : againG ((cs.take 0).map (·.x)) (cs.drop 0) 0 = againI cs := rfl
  obtain ⟨ad, cap, rfl, hnc, hcm⟩ := h.form
  have hln := h.len
  have hb0 : Below w.heap.size w (w.alloc (.cells #[.string nm, .slice ad cs.length cap] 58)) := balloc (Below.refl _ _) _
  have HBX := Lib.hid (Blk.new w 58 #[.string nm, .slice ad cs.length cap])
  have HR := Lib.hid (h.keep hb0)
  have HIN := Lib.hid (fun W => refName_any nm W (by omega))
  have HIC := Lib.hid (fun W (c : Col) (hm : c ∈ cs) => refName_any ⟨c.x.toArray⟩ W (by
    have h1 := hc c hm
    have e : (⟨c.x.toArray⟩ : ByteArray).size = c.x.length := by simp [ByteArray.size]
    omega))
  generalize chkC nm.data.toList cs = RES at *
  have HB0 := Lib.hid hb0
  have Q1 := Lib.hid q1
  have Q2 := Lib.hid q2
  have Q3 := Lib.hid q3
  have Q4 := Lib.hid q4
  have Q5 := Lib.hid q5
  have Q6 := Lib.hid q6
  clear h hn hc hb0 q1 q2 q3 q4 q5 q6
  generalize isNameB nm.data.toList = bn at *
  generalize againI cs = AG at *
  have HAG := Lib.hid hag
  clear hag
  obtain ⟨w0, hw0⟩ : ∃ w0, w.alloc (.cells #[.string nm, .slice ad cs.length cap] 58) = w0 := ⟨_, rfl⟩
  unfold maxLen at hcm
  cases bn with
  | false =>
    have hr := Q1.out rfl
    subst hr
    clear hw0
    go_enter Tryd.func38, Tryd.ntmps38
    go_wp2_with fail
    refine (HIN.out _).mono ?_
    rintro e w2 ⟨rfl, rfl⟩
    go_wp2_with fail
    go_ret
    exact ⟨rfl, HB0.out⟩
  | true =>
    generalize hN : cs.length = n at *
    have HN := Lib.hid hN
    clear hN
    rw [hw0] at HBX HR HB0
    have hx1 := HBX.out.cell 1
    simp only [List.getElem?_toArray, List.getElem?_cons_zero, List.getElem?_cons_succ] at hx1
    have hxl := HBX.out.lt
    have HW0 := Lib.hid hw0
    clear hw0
    go_enter Tryd.func38, Tryd.ntmps38
    go_wp2_with fail
    refine (HIN.out _).mono ?_
    rintro e w2 ⟨rfl, rfl⟩
    rw [HW0.out]
    go_wp2_with fail
    go_loop [3] (fun i => ∃ k : Nat, k ≤ n ∧ i = .int .i64 k ∧ Hid (∀ c ∈ cs.take k, isNameB c.x = true)) (fun i => n - (intOf i).toNat)
    case atStart => exact ⟨0, Nat.zero_le _, rfl, Lib.hid (by simp)⟩
    case round =>
      obtain ⟨k, hk, rfl, HP⟩ := hrel
      by_cases hlt : k < n
      · obtain ⟨c, hc⟩ : ∃ c, cs[k]? = some c := ⟨cs[k]'(by rw [HN.out]; exact hlt), List.getElem?_eq_getElem (by rw [HN.out]; exact hlt)⟩
        obtain ⟨tb, to, tcap, htv, _, _, htbl, t0, t1⟩ := ColsAt.get HR.out hc
        simp only [HN.out, Value.slice.injEq, true_and] at htv
        obtain ⟨rfl, rfl⟩ := htv
        have hm := List.mem_of_getElem? hc
        have hic := HIC.out w0 c hm
        have HM := Lib.hid hm
        have hd : decide ((k : Int) < 0) = false := by simp
        have hd2 : decide ((n : Int) ≤ (k : Int)) = false := by simp; omega
        cases hb : isNameB c.x with
        | false =>
          have hr := Q2.out trivial c hm hb
          subst hr
          rw [show isNameB (⟨c.x.toArray⟩ : ByteArray).data.toList = false from hb] at hic
          have HI := Lib.hid hic
          clear hic hm hb hc
          go_wp2_with fail
          refine HI.out.mono ?_
          rintro e w2 ⟨rfl, rfl⟩
          go_wp2_with fail
          go_ret
          exact ⟨rfl, HB0.out⟩
        | true =>
          rw [show isNameB (⟨c.x.toArray⟩ : ByteArray).data.toList = true from hb] at hic
          have HI := Lib.hid hic
          have HP2 : Hid (∀ c ∈ cs.take (k + 1), isNameB c.x = true) := Lib.hid (by
            rw [List.take_add_one, hc]
            intro d hd'
            simp at hd'
            rcases hd' with h1 | rfl
            · exact HP.out d h1
            · exact hb)
          clear hic hm hb hc
          go_wp2_with fail
          refine HI.out.mono ?_
          rintro e w2 ⟨rfl, rfl⟩
          go_wp2_with fail
          go_round
          case rel => exact ⟨k + 1, by omega, by go_num, HP2⟩
          case measure => simp [intOf]; omega
      · obtain rfl : k = n := by omega
        have hall : ∀ c ∈ cs, isNameB c.x = true := by
          have := HP.out
          rwa [List.take_of_length_le (by rw [HN.out]; exact Nat.le_refl _)] at this
        have HALL := Lib.hid hall
        clear hall
        by_cases h5 : 5 < k
        · have hr := Q3.out trivial HALL.out h5
          subst hr
          have hd : (5 : Int) < (k : Int) := by omega
          have hd2 : ¬ ((k : Int) ≤ 5) := by omega
          go_wp2_with fail
          go_ret
          exact ⟨rfl, HB0.out⟩
        · have hd : ¬ ((5 : Int) < (k : Int)) := by omega
          have hd2 : (k : Int) ≤ 5 := by omega
          have H5 := Lib.hid h5
          clear h5
          go_wp2_with fail
          go_loop [4] (fun i => ∃ j : Nat, j ≤ k ∧ i = .int .i64 j ∧ Hid (∀ c ∈ cs.take j, badK c = false)) (fun i => k - (intOf i).toNat)
          case atStart => exact ⟨0, Nat.zero_le _, rfl, Lib.hid (by simp)⟩
          case round =>
            obtain ⟨j, hj, rfl, HP2⟩ := hrel
            by_cases hlt2 : j < k
            · obtain ⟨c, hc⟩ : ∃ c, cs[j]? = some c := ⟨cs[j]'(by rw [HN.out]; exact hlt2), List.getElem?_eq_getElem (by rw [HN.out]; exact hlt2)⟩
              obtain ⟨tb, to, tcap, htv, _, _, htbl, t0, t1⟩ := ColsAt.get HR.out hc
              simp only [HN.out, Value.slice.injEq, true_and] at htv
              obtain ⟨rfl, rfl⟩ := htv
              have hm := List.mem_of_getElem? hc
              have hdj : decide ((j : Int) < 0) = false := by simp
              have hdj2 : decide ((k : Int) ≤ (j : Int)) = false := by simp; omega
              have hgood : c.k = 1 ∨ c.k = 2 → Hid (∀ c ∈ cs.take (j + 1), badK c = false) := fun hk => Lib.hid (by
                rw [List.take_add_one, hc]
                intro d hd'
                simp at hd'
                rcases hd' with h1 | rfl
                · exact HP2.out d h1
                · unfold badK
                  rcases hk with hk | hk <;> simp [hk])
              by_cases hk1 : c.k = 1
              · have q1 : (c.k != 1) = false := by simp [hk1]
                have HP3 := hgood (.inl hk1)
                clear hgood hm hc hk1
                go_wp2_with fail
                go_round
                case rel => exact ⟨j + 1, by omega, by go_num, HP3⟩
                case measure => simp [intOf]; omega
              · have q1 : (c.k != 1) = true := by simpa using hk1
                by_cases hk2 : c.k = 2
                · have q2 : (c.k != 2) = false := by simp [hk2]
                  have HP3 := hgood (.inr hk2)
                  clear hgood hm hc hk1 hk2
                  go_wp2_with fail
                  go_round
                  case rel => exact ⟨j + 1, by omega, by go_num, HP3⟩
                  case measure => simp [intOf]; omega
                · have q2 : (c.k != 2) = true := by simpa using hk2
                  have hr := Q4.out trivial HALL.out H5.out c hm (by unfold badK; simp [hk1, hk2])
                  subst hr
                  clear hgood hm hc hk1 hk2
                  go_wp2_with fail
                  go_ret
                  exact ⟨rfl, HB0.out⟩
            · obtain rfl : j = k := by omega
              have hallk : ∀ c ∈ cs, badK c = false := by
                have := HP2.out
                rwa [List.take_of_length_le (by rw [HN.out]; exact Nat.le_refl _)] at this
              have HALLK := Lib.hid hallk
              clear hallk HP2
              go_wp2_with fail
              go_loopw [5] (fun i wr => ∃ m : Nat, m ≤ j ∧ i = .int .i64 m ∧ Hid (againG ((cs.take m).map (·.x)) (cs.drop m) m = AG) ∧ Hid (Below w0.heap.size w0 wr)) (fun i _ => j - (intOf i).toNat)
              case atStart => exact ⟨0, Nat.zero_le _, rfl, HAG, Lib.hid (Below.refl _ _)⟩
              case round =>
                obtain ⟨m, hm, rfl, HG, BW⟩ := hrel
                obtain ⟨wo, rfl⟩ : ∃ wo : World, wo = wr := ⟨_, rfl⟩
                have xo := (BW.out.cell (p := ⟨w.heap.size, 1, none⟩) hxl).trans hx1
                have xol : w.heap.size < wo.heap.size := Nat.lt_of_lt_of_le hxl BW.out.size
                by_cases hlt3 : m < j
                · obtain ⟨c, hc⟩ : ∃ c, cs[m]? = some c := ⟨cs[m]'(by rw [HN.out]; exact hlt3), List.getElem?_eq_getElem (by rw [HN.out]; exact hlt3)⟩
                  have HC := Lib.hid hc
                  clear hc
                  go_wp2_with fail
                  go_loopw [6] (fun i wr => ∃ j2 : Nat, j2 ≤ m ∧ i = .int .i64 j2 ∧ Hid (c.x ∉ (cs.take j2).map (·.x)) ∧ Hid (Below w0.heap.size w0 wr)) (fun i _ => m - (intOf i).toNat)
                  case atStart => exact ⟨0, Nat.zero_le _, rfl, Lib.hid (by simp), BW⟩
                  case round =>
                    obtain ⟨j2, hj2, rfl, HNI, BW2⟩ := hrel
                    have xr := (BW2.out.cell (p := ⟨w.heap.size, 1, none⟩) hxl).trans hx1
                    have xrl : w.heap.size < wr.heap.size := Nat.lt_of_lt_of_le hxl BW2.out.size
                    by_cases hlt4 : j2 < m
                    · obtain ⟨d, hd0⟩ : ∃ d, cs[j2]? = some d := ⟨cs[j2]'(by rw [HN.out]; omega), List.getElem?_eq_getElem (by rw [HN.out]; omega)⟩
                      obtain ⟨tb, to, tcap, htv, _, _, htbl, t0, t1⟩ := (ColsAt.keep HR.out BW2.out).get HC.out
                      simp only [HN.out, Value.slice.injEq, true_and] at htv
                      obtain ⟨rfl, rfl⟩ := htv
                      obtain ⟨ub, uo, ucap, huv, _, _, hubl, u0, u1⟩ := (ColsAt.keep HR.out BW2.out).get hd0
                      simp only [HN.out, Value.slice.injEq, Option.some.injEq, Addr.mk.injEq, true_and, and_true] at huv
                      obtain ⟨⟨rfl, rfl⟩, rfl⟩ := huv
                      have hdm : decide ((m : Int) < 0) = false := by simp
                      have hdm2 : decide ((j : Int) ≤ (m : Int)) = false := by simp; omega
                      have hdk : decide ((j2 : Int) < 0) = false := by simp
                      have hdk2 : decide ((j : Int) ≤ (j2 : Int)) = false := by simp; omega
                      by_cases he : c.x = d.x
                      · have q1 : (c.x == d.x) = true := by rw [he]; exact beq_self_eq_true _
                        have hmem : c.x ∈ (cs.take m).map (·.x) := by
                          rw [he]
                          refine List.mem_map.2 ⟨d, ?_, rfl⟩
                          rw [List.mem_take_iff_getElem]
                          exact ⟨j2, by rw [HN.out]; omega, (List.getElem?_eq_some_iff.1 hd0).2⟩
                        have hg := HG.out
                        rw [again_hit HC.out hmem] at hg
                        have hr := Q5.out trivial HALL.out H5.out HALLK.out m hg.symm
                        subst hr
                        clear hmem hg he hd0
                        go_wp2_with fail
                        go_quiet (fail)
                        go_wp2_with fail
                        go_ret
                        exact ⟨rfl, HB0.out.trans ((bdrewN BW2.out _).mono HB0.out.size)⟩
                      · have q1 : (c.x == d.x) = false := by simpa using he
                        have HNI2 : Hid (c.x ∉ (cs.take (j2 + 1)).map (·.x)) := Lib.hid (by
                          rw [List.take_add_one, hd0]
                          intro h1
                          simp only [Option.toList_some, List.map_append, List.map_cons, List.map_nil, List.mem_append, List.mem_singleton] at h1
                          rcases h1 with h1 | h1
                          · exact HNI.out h1
                          · exact he h1)
                        clear he hd0
                        go_wp2_with fail
                        go_quiet (fail)
                        go_wp2_with fail
                        go_roundw
                        case rel => exact ⟨j2 + 1, by omega, by go_num, HNI2, Lib.hid (bdrewN BW2.out _)⟩
                        case measure => simp [intOf]; omega
                    · obtain rfl : j2 = m := by omega
                      have hg := HG.out
                      rw [again_step HC.out HNI.out] at hg
                      have HG2 := Lib.hid hg
                      clear hg
                      go_wp2_with fail
                      go_roundw
                      case rel => exact ⟨j2 + 1, by omega, by go_num, HG2, BW2⟩
                      case measure => simp [intOf]; omega
                · obtain rfl : m = j := by omega
                  have hg := HG.out
                  rw [List.drop_of_length_le (by rw [HN.out]; exact Nat.le_refl _)] at hg
                  unfold againG at hg
                  have hr := Q6.out trivial HALL.out H5.out HALLK.out hg.symm
                  subst hr
                  clear hg
                  go_wp2_with fail
                  go_ret
                  exact ⟨rfl, HB0.out.trans (BW.out.mono HB0.out.size)⟩
end Go.Proofs.YtbehonaegfpmoaaDoor
