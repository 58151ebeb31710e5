/- schema.Check, walked. -/
import Derived.Test.YtbehonaegfpmoaaDoorKc1Z
import Derived.Test.YtbehonaegfpmoaaDoorLd
namespace Go.Proofs.YtbehonaegfpmoaaDoor
open Go.RowKit
set_option linter.unusedVariables false

set_option maxHeartbeats 1000000 in
set_option maxRecDepth 100000 in
theorem chkName_any (w : World) (d : Col) (hs : d.x.length ≤ 140737488355328) :
    Calls Tryd.prog 87 #[.agg #[.string ⟨d.x.toArray⟩, .int .i64 d.k]] w fun e w' => e = .returned (.bool (!isNameB d.x)) ∧ Below w.heap.size w w' := by
  have hnot : ∀ (x : Bool) (w : World), (Op.unary .not (.bool x)).run Tryd.prog w = .ok (.bool (!x)) w := fun _ _ => rfl
  have HI := Lib.hid (fun W => isName_any ⟨d.x.toArray⟩ W (by simpa [ByteArray.size] using hs))
  have HB := Lib.hid (balloc (Below.refl w.heap.size w) (.cells #[.string ⟨d.x.toArray⟩, .int .i64 d.k] 78))
  obtain ⟨q, hq⟩ : ∃ q, q = isNameB d.x := ⟨_, rfl⟩
  rw [← hq]
  have HQ := Lib.hid hq
  clear hq hs
  go_enter Tryd.func87, Tryd.ntmps87
  go_wp2_with fail
  refine (HI.out _).mono ?_
  rintro e w2 ⟨rfl, rfl⟩
  go_wp2_with fail
  go_ret
  exact ⟨by rw [HQ.out]; rfl, HB.out⟩

set_option maxHeartbeats 1000000 in
set_option maxRecDepth 100000 in
theorem chkKind_any (w : World) (d : Col) :
    Calls Tryd.prog 88 #[.agg #[.string ⟨d.x.toArray⟩, .int .i64 d.k]] w fun e w' => e = .returned (.bool (badK d)) ∧ Below w.heap.size w w' := by
  have HB := Lib.hid (balloc (Below.refl w.heap.size w) (.cells #[.string ⟨d.x.toArray⟩, .int .i64 d.k] 78))
  unfold badK
  by_cases h1 : d.k = 1
  · have q1 : (d.k != 1) = false := by simp [h1]
    have hr : decide (d.k ≠ 1 ∧ d.k ≠ 2) = false := by simp [h1]
    rw [hr]
    clear h1 hr
    go_enter Tryd.func88, Tryd.ntmps88
    go_wp2_with fail
    go_ret
    exact ⟨rfl, HB.out⟩
  · have q1 : (d.k != 1) = true := by simpa using h1
    by_cases h2 : d.k = 2
    · have q2 : (d.k != 2) = false := by simp [h2]
      have hr : decide (d.k ≠ 1 ∧ d.k ≠ 2) = false := by simp [h2]
      rw [hr]
      clear h1 h2 hr
      go_enter Tryd.func88, Tryd.ntmps88
      go_wp2_with fail
      go_ret
      exact ⟨rfl, HB.out⟩
    · have q2 : (d.k != 2) = true := by simpa using h2
      have hr : decide (d.k ≠ 1 ∧ d.k ≠ 2) = true := by simp [h1, h2]
      rw [hr]
      clear h1 h2 hr
      go_enter Tryd.func88, Tryd.ntmps88
      go_wp2_with fail
      go_ret
      exact ⟨rfl, HB.out⟩

def colK : List Value → Int
  | [_, .int _ k] => k
  | _ => 0
theorem any_cells (p : Col → Bool) (q : List Value → Bool) (hq : ∀ c : Col, q c.cells = p c) (l : List Col) : (l.map Col.cells).any q = l.any p := by
  induction l with
  | nil => rfl
  | cons a l ih => simp only [List.map_cons, List.any_cons, ih, hq]

set_option maxHeartbeats 1000000 in
set_option maxRecDepth 100000 in
/-- bad, at a closure that tells p. -/
theorem chkBad_any (g : Nat) (eg : ∀ args w, (callFunc g args).run Tryd.prog w = .ok (.enter g args) w) (p : Col → Bool) (q : List Value → Bool) (hq : ∀ c : Col, q c.cells = p c) (w : World) (b : Nat) (nm : Value) (v : Value) (cs : List Col) (hb : Blk w b 58 #[nm, v]) (h : ColsAt w v cs)
    (hf : ∀ (W : World) (d : Col), d ∈ cs → Calls Tryd.prog g #[.agg #[.string ⟨d.x.toArray⟩, .int .i64 d.k]] W fun e W' => e = .returned (.bool (p d)) ∧ Below W.heap.size W W') :
    Calls Tryd.prog 84 #[.func (.func g) #[] #[], .pointer (some ⟨b, 0, none⟩)] w fun e w' => e = .returned (.bool (cs.any p)) ∧ Below w.heap.size w w' := by
  have hc := containsFunc_Col g #[] eg q w v (cs.map Col.cells) h (col_len _) (fun W y _ hy => by
    obtain ⟨d, hd, rfl⟩ := List.mem_map.1 hy
    rw [hq]
    exact hf W d hd)
  rw [any_cells p q hq] at hc
  have x1 := hb.cell 1
  have xl := hb.lt
  simp only [List.getElem?_toArray, List.getElem?_cons_zero, List.getElem?_cons_succ] at x1
  have HC := Lib.hid hc
  clear hc hb h hf
  generalize cs.any p = RES at *
  go_enter Tryd.func84, Tryd.ntmps84
  go_wp2_with fail
  refine HC.out.mono ?_
  rintro e w2 ⟨rfl, hb2⟩
  have HB2 := Lib.hid hb2
  clear hb2
  go_wp2_with fail
  go_ret
  exact ⟨rfl, HB2.out⟩

set_option maxHeartbeats 8000000 in
set_option maxRecDepth 100000 in
theorem check_any (w : World) (nm : ByteArray) (v : Value) (cs : List Col) (h : ColsAt w v cs) (hn : nm.size ≤ 140737488355328) (hc : ∀ c ∈ cs, c.x.length ≤ 140737488355328) :
    Calls Tryd.prog 37 #[.agg #[.string nm, v]] w fun e w' => e = .returned (.int .i64 (chkC nm.data.toList cs)) ∧ Below w.heap.size w w' := by
  have hmf : ∀ (fn : Fn) (first cap : Array Value) (w : World), (Instr.makeFunc fn first cap).run Tryd.prog w = .ok (.func fn first cap) w := fun _ _ _ _ => rfl
  have hnot : ∀ (x : Bool) (w : World), (Op.unary .not (.bool x)).run Tryd.prog w = .ok (.bool (!x)) w := fun _ _ => rfl
  have hbox := Blk.new w 58 #[.string nm, v]
  have hb0 : Below w.heap.size w (w.alloc (.cells #[.string nm, v] 58)) := balloc (Below.refl _ _) _
  have HN := Lib.hid (fun W => isName_any nm W hn)
  have e87 := enters_of Tryd.func87 (P := Tryd.prog) (by kernel_rfl) rfl
  have e88 := enters_of Tryd.func88 (P := Tryd.prog) (by kernel_rfl) rfl
  have e84 := enters_of Tryd.func84 (P := Tryd.prog) (by kernel_rfl) rfl
  have HB1 := Lib.hid (fun (W : World) (hW : Below (w.alloc (.cells #[.string nm, v] 58)).heap.size (w.alloc (.cells #[.string nm, v] 58)) W) => chkBad_any 87 e87 (fun c => !isNameB c.x) (fun y => !isNameB (colX y)) (fun c => by simp [Col.cells, colX]) W w.heap.size _ v cs (hbox.below hW (by simp)) (h.keep (hb0.trans (hW.mono (by simp)))) (fun W d hd => chkName_any W d (hc d hd)))
  have HB2 := Lib.hid (fun (W : World) (hW : Below (w.alloc (.cells #[.string nm, v] 58)).heap.size (w.alloc (.cells #[.string nm, v] 58)) W) => chkBad_any 88 e88 badK (fun y => badK ⟨[], colK y⟩) (fun _ => rfl) W w.heap.size _ v cs (hbox.below hW (by simp)) (h.keep (hb0.trans (hW.mono (by simp)))) (fun W d hd => chkKind_any W d))
  have HA := Lib.hid (fun (W : World) (hW : Below (w.alloc (.cells #[.string nm, v] 58)).heap.size (w.alloc (.cells #[.string nm, v] 58)) W) => again_any W v cs (h.keep (hb0.trans (hW.mono (by simp)))))
  obtain ⟨ad, cap, rfl, hnc, hcm⟩ := h.form
  have HBX := Lib.hid hbox
  have HB0 := Lib.hid hb0
  obtain ⟨Q, hQ⟩ : ∃ Q, Q = chkC nm.data.toList cs := ⟨_, rfl⟩
  rw [← hQ]
  unfold chkC at hQ
  generalize isNameB nm.data.toList = bn at *
  generalize (cs.any fun c => !isNameB c.x) = bx at *
  generalize cs.any badK = bk at *
  generalize againI cs = ag at *
  generalize cs.length = n at *
  have HQ := Lib.hid hQ
  clear h hn hc hbox hb0 e87 e88 hQ
  cases bn with
  | false =>
    have hq := HQ.out
    rw [if_pos rfl] at hq
    have HQ := Lib.hid hq
    clear hq
    go_enter Tryd.func37, Tryd.ntmps37
    go_wp2_with fail
    refine (HN.out _).mono ?_
    rintro e w2 ⟨rfl, rfl⟩
    go_wp2_with fail
    go_ret
    exact ⟨by rw [HQ.out]; rfl, HB0.out⟩
  | true =>
    have hq := HQ.out
    rw [if_neg (by decide)] at hq
    have HQ := Lib.hid hq
    clear hq
    go_enter Tryd.func37, Tryd.ntmps37
    go_wp2_with fail
    refine (HN.out _).mono ?_
    rintro e w2 ⟨rfl, rfl⟩
    go_wp2_with fail
    refine (HB1.out _ (Below.refl _ _)).mono ?_
    rintro e w2 ⟨rfl, hb2⟩
    have y1 := (HBX.out.below hb2 (by simp)).cell 1
    have yl := (HBX.out.below hb2 (by simp)).lt
    simp only [List.getElem?_toArray, List.getElem?_cons_zero, List.getElem?_cons_succ] at y1
    have H2 := Lib.hid hb2
    have HBB := Lib.hid (HB0.out.trans (hb2.mono (by simp)))
    clear hb2
    cases bx with
    | true =>
      have hq := HQ.out
      rw [if_pos rfl] at hq
      have HQ := Lib.hid hq
      clear hq
      go_wp2_with fail
      go_ret
      exact ⟨by rw [HQ.out]; rfl, HBB.out⟩
    | false =>
      have hq := HQ.out
      rw [if_neg (by decide)] at hq
      have HQ := Lib.hid hq
      clear hq
      by_cases h5 : 5 < n
      · have hq := HQ.out
        rw [if_pos h5] at hq
        have HQ := Lib.hid hq
        clear hq
        have hd : (5 : Int) < (n : Int) := by omega
        have hd2 : ¬ ((n : Int) ≤ 5) := by omega
        go_wp2_with fail
        go_ret
        exact ⟨by rw [HQ.out]; rfl, HBB.out⟩
      · have hq := HQ.out
        rw [if_neg h5] at hq
        have HQ := Lib.hid hq
        clear hq
        have hd : ¬ ((5 : Int) < (n : Int)) := by omega
        have hd2 : (n : Int) ≤ 5 := by omega
        have hd3 : ¬ 5 < n := h5
        go_wp2_with fail
        refine (HB2.out _ H2.out).mono ?_
        rintro e w3 ⟨rfl, hb3⟩
        have hb13 := H2.out.trans (hb3.mono H2.out.size)
        have y1 := (HBX.out.below hb13 (by simp)).cell 1
        have yl := (HBX.out.below hb13 (by simp)).lt
        simp only [List.getElem?_toArray, List.getElem?_cons_zero, List.getElem?_cons_succ] at y1
        have H3 := Lib.hid hb13
        have HBC := Lib.hid (HB0.out.trans (hb13.mono (by simp)))
        clear hb3 hb13
        cases bk with
        | true =>
          have hq := HQ.out
          rw [if_pos rfl] at hq
          have HQ := Lib.hid hq
          clear hq
          go_wp2_with fail
          go_ret
          exact ⟨by rw [HQ.out]; rfl, HBC.out⟩
        | false =>
          have hq := HQ.out
          rw [if_neg (by decide)] at hq
          have HQ := Lib.hid hq
          clear hq
          go_wp2_with fail
          refine (HA.out _ H3.out).mono ?_
          rintro e w4 ⟨rfl, hb4⟩
          have HBD := Lib.hid (HB0.out.trans ((H3.out.trans (hb4.mono H3.out.size)).mono (by simp)))
          clear hb4
          by_cases h6 : 0 ≤ ag
          · have hq := HQ.out
            rw [if_pos h6] at hq
            have HQ := Lib.hid hq
            clear hq
            have hd4 : decide (0 ≤ ag) = true := decide_eq_true h6
            go_wp2_with fail
            go_ret
            exact ⟨by rw [HQ.out]; rfl, HBD.out⟩
          · have hq := HQ.out
            rw [if_neg h6] at hq
            have HQ := Lib.hid hq
            clear hq
            have hd4 : decide (0 ≤ ag) = false := decide_eq_false h6
            go_wp2_with fail
            go_ret
            exact ⟨by rw [HQ.out]; rfl, HBD.out⟩
end Go.Proofs.YtbehonaegfpmoaaDoor
