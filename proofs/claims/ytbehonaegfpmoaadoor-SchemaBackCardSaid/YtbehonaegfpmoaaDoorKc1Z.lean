/- schema.kindName, again, Check, walked. -/
import Derived.Test.YtbehonaegfpmoaaDoorKc0Z
import Derived.Test.YtbehonaegfpmoaaDoorIxColZ
import Derived.OwnWalk
import Derived.Deep.QuietTactic
import Derived.BigQuiet
namespace Go.Proofs.YtbehonaegfpmoaaDoor
open Go.RowKit
set_option linter.unusedVariables false

set_option maxHeartbeats 1000000 in
set_option maxRecDepth 100000 in
theorem kindName_any (k : Int) (w : World) : Calls Tryd.prog 90 #[.int .i64 k] w fun e w' => e = .returned (.string ⟨(kindN k).toArray⟩) ∧ w = w' := by
  unfold kindN
  by_cases h : k = 2
  · rw [if_pos h]
    subst h
    go_enter Tryd.func90, Tryd.ntmps90
    go_wp2_with fail
    go_ret
    exact ⟨rfl, rfl⟩
  · rw [if_neg h]
    have hb : (k == 2) = false := by simpa using h
    go_enter Tryd.func90, Tryd.ntmps90
    go_wp2_with fail
    go_ret
    exact ⟨rfl, rfl⟩

set_option maxHeartbeats 1000000 in
set_option maxRecDepth 100000 in
theorem againClo_any (w : World) (d : Col) (b : Nat) (s : List UInt8) (hc : w.cell? ⟨b, 0, none⟩ = some (.string ⟨s.toArray⟩)) :
    Calls Tryd.prog 109 #[.agg #[.string ⟨d.x.toArray⟩, .int .i64 d.k], .pointer (some ⟨b, 0, none⟩)] w fun e w' => e = .returned (.bool (decide (d.x = s))) ∧ Below w.heap.size w w' := by
  have hbl := World.block_lt_of_cell? w _ hc
  simp at hbl
  have hne : b ≠ w.heap.size := by omega
  have hc2 : (w.alloc (.cells #[.string ⟨d.x.toArray⟩, .int .i64 d.k] 78)).cell? ⟨b, 0, none⟩ = some (.string ⟨s.toArray⟩) := ((balloc (Below.refl w.heap.size w) _).cell (p := ⟨b, 0, none⟩) hbl).trans hc
  have HB := Lib.hid (balloc (Below.refl w.heap.size w) (.cells #[.string ⟨d.x.toArray⟩, .int .i64 d.k] 78))
  by_cases h : d.x = s
  · subst h
    rw [decide_eq_true rfl]
    go_enter Tryd.func109, Tryd.ntmps109
    go_wp2_with fail
    go_ret
    exact ⟨by simp, HB.out⟩
  · rw [decide_eq_false h]
    have hq2 : ¬ ((⟨d.x.toArray⟩ : ByteArray) = ⟨s.toArray⟩) := fun e => h (bytes_eq.1 e)
    have hq3 : (d.x == s) = false := by simpa using h
    go_enter Tryd.func109, Tryd.ntmps109
    go_wp2_with fail
    go_ret
    exact ⟨by simp, HB.out⟩

/-- A column's name among its cells. -/
def colX : List Value → List UInt8
  | .string b :: _ => b.data.toList
  | _ => []
theorem any_colX (s : List UInt8) (l : List Col) : (l.map Col.cells).any (fun y => decide (colX y = s)) = decide (s ∈ l.map (·.x)) := by
  induction l with
  | nil => rfl
  | cons a l ih =>
    simp only [List.map_cons, List.any_cons, ih, List.mem_cons]
    have : colX a.cells = a.x := by simp [Col.cells, colX]
    rw [this]
    by_cases h1 : a.x = s <;> by_cases h2 : s ∈ l.map (·.x) <;> simp [h1, h2]
    intro h3
    exact absurd h3.symm h1

set_option maxHeartbeats 4000000 in
set_option maxRecDepth 100000 in
theorem again_any (w : World) (v : Value) (cs : List Col) (h : ColsAt w v cs) :
    Calls Tryd.prog 82 #[v] w fun e w' => e = .returned (.int .i64 (againI cs)) ∧ Below w.heap.size w w' := by
  have hmf : ∀ (fn : Fn) (first cap : Array Value) (w : World), (Instr.makeFunc fn first cap).run Tryd.prog w = .ok (.func fn first cap) w := fun _ _ _ _ => rfl
  obtain ⟨ad, cap, rfl, hnc, hcm⟩ := h.form
  have hln := h.len
  have HR := Lib.hid h
  unfold maxLen at hcm
  have hres : againG ((cs.take 0).map (·.x)) (cs.drop 0) 0 = againI cs := rfl
  generalize againI cs = RES at *
  have HRES := Lib.hid hres
  generalize hn : cs.length = n at *
  have HN := Lib.hid hn
  clear h hn hres
  go_enter Tryd.func82, Tryd.ntmps82
  go_wp2_with fail
  go_loopw [7] (fun i wr => ∃ k : Nat, k ≤ n ∧ i = .int .i64 k ∧ Hid (againG ((cs.take k).map (·.x)) (cs.drop k) k = RES) ∧ Hid (Below w.heap.size w wr)) (fun i _ => n - (intOf i).toNat)
  case atStart => exact ⟨0, Nat.zero_le _, rfl, HRES, Lib.hid (Below.refl _ _)⟩
  case round =>
    obtain ⟨k, hk, rfl, HE, BW⟩ := hrel
    by_cases hlt : k < n
    · obtain ⟨c, hc⟩ : ∃ c, cs[k]? = some c := ⟨cs[k]'(by rw [HN.out]; exact hlt), List.getElem?_eq_getElem (by rw [HN.out]; exact hlt)⟩
      obtain ⟨tb, to, tcap, htv, _, _, htbl, t0, t1⟩ := (ColsAt.keep HR.out BW.out).get hc
      simp only [HN.out, Value.slice.injEq, true_and] at htv
      obtain ⟨rfl, rfl⟩ := htv
      have hkc : k ≤ cap := by omega
      have hb2 : Below wr.heap.size wr (wr.alloc (.cells #[.string ⟨c.x.toArray⟩, .int .i64 c.k] 78)) := balloc (Below.refl _ _) _
      have hrt : RowAt (wr.alloc (.cells #[.string ⟨c.x.toArray⟩, .int .i64 c.k] 78)) (.slice (some ⟨tb, to, none⟩) k cap) 2 ((cs.take k).map Col.cells) := by
        rw [List.map_take]
        exact (((ColsAt.keep HR.out BW.out).keep hb2 : RowAt _ _ _ _)).take (by rw [List.length_map, HN.out]; exact hk) (by rw [List.length_map, HN.out])
      have hcf := containsFunc_Col 109 #[.pointer (some ⟨wr.heap.size, 0, none⟩)] (enters_of Tryd.func109 (by kernel_rfl) rfl) (fun y => decide (colX y = c.x)) (wr.alloc (.cells #[.string ⟨c.x.toArray⟩, .int .i64 c.k] 78)) _ _ hrt (col_len _) (fun W y hb hy => by
        obtain ⟨d, _, rfl⟩ := List.mem_map.1 hy
        have hcell : W.cell? ⟨wr.heap.size, 0, none⟩ = some (.string ⟨c.x.toArray⟩) := by
          have := ((Blk.new wr 78 #[.string ⟨c.x.toArray⟩, .int .i64 c.k]).below hb (by simp)).cell 0
          simpa using this
        have hcl := againClo_any W d wr.heap.size c.x hcell
        have he : colX d.cells = d.x := by simp [Col.cells, colX]
        rw [he]
        exact hcl)
      rw [any_colX] at hcf
      have HC := Lib.hid hc
      have HB2 := Lib.hid hb2
      clear hrt hb2
      by_cases hq : c.x ∈ (cs.take k).map (·.x)
      · rw [decide_eq_true hq] at hcf
        have hp := HE.out
        rw [again_hit hc hq] at hp
        subst hp
        have HCF := Lib.hid hcf
        clear hcf hc hq
        go_wp2_with fail
        refine HCF.out.mono ?_
        rintro e w2 ⟨rfl, hb⟩
        have HB3 := Lib.hid (BW.out.trans ((HB2.out.trans (hb.mono (by simp))).mono BW.out.size))
        clear hb
        go_wp2_with fail
        go_ret
        exact ⟨rfl, HB3.out⟩
      · rw [decide_eq_false hq] at hcf
        have hp := HE.out
        rw [again_step hc hq] at hp
        have HP := Lib.hid hp
        have HCF := Lib.hid hcf
        clear hcf hc hq hp
        go_wp2_with fail
        refine HCF.out.mono ?_
        rintro e w2 ⟨rfl, hb⟩
        have HB3 := Lib.hid (BW.out.trans ((HB2.out.trans (hb.mono (by simp))).mono BW.out.size))
        clear hb
        go_wp2_with fail
        go_roundw
        case rel => exact ⟨k + 1, by omega, by go_num, HP, HB3⟩
        case measure => simp [intOf]; omega
    · obtain rfl : k = n := by omega
      have hp := HE.out
      rw [List.drop_of_length_le (by rw [HN.out]; exact Nat.le_refl _)] at hp
      unfold againG at hp
      subst hp
      go_wp2_with fail
      go_ret
      exact ⟨rfl, BW.out⟩
end Go.Proofs.YtbehonaegfpmoaaDoor
