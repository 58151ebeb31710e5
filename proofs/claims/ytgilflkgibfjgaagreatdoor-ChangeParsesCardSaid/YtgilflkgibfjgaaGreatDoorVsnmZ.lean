/- osierref01.Scan at a number with a minus, walked (printed by num.py). -/
import Derived.Test.YtgilflkgibfjgaaGreatDoorLb
import Derived.Test.YtgilflkgibfjgaaGreatDoorLe
namespace Go.Proofs.YtgilflkgibfjgaaGreatDoor
open Go.RowKit
set_option linter.unusedVariables false

set_option maxHeartbeats 16000000 in
set_option maxRecDepth 100000 in
theorem refMinusBada (s : ByteArray) (a : Nat) (w : World) (ha : a < s.size) (hs2 : s.size ≤ 281474976710656) (hm : bt s.data.toList a = 45) (hq : bt s.data.toList a ≠ 34) (hmo : (refNum s.data.toList a (a + 1)).e ≠ 0 ∧ bt s.data.toList (a + 1) = 48) :
    Calls Tryz.prog 139 #[.string s, .int .i64 a] w fun e w' => e = .returned (refNum s.data.toList a (a + 1)).v ∧ Below w.heap.size w w' := by
  have HMO := Lib.hid hmo
  clear hmo
  have hsl : s.data.toList.length = s.size := rfl
  have HSL := Lib.hid hsl
  have hbt := bt_of s a ha
  generalize hL : s.data.toList = l at *
  have HL := Lib.hid hL
  have q0 : ((a : Int) == (s.size : Int)) = false := beq_eq_false_iff_ne.2 (by omega)
  have q0' : (a == s.size) = false := beq_eq_false_iff_ne.2 (by omega)
  have q1 : (((s[a]'ha).toNat : Int) == 34) = false := by rw [hbt]; exact beq_eq_false_iff_ne.2 hq
  have q2 : (((s[a]'ha).toNat : Int) == 45) = true := by rw [hbt]; rw [hm]; rfl
  have HQ := Lib.hid (And.intro hm hq)
  have hB0 : Below w.heap.size w (w.alloc (.cells #[.int .i64 0, .int .i64 0, .string ⟨#[]⟩] 65)) := balloc (Below.refl _ _) _
  have hblk : Blk (w.alloc (.cells #[.int .i64 0, .int .i64 0, .string ⟨#[]⟩] 65)) w.heap.size 65 #[.int .i64 0, .int .i64 0, .string ⟨#[]⟩] := Blk.new _ _ _
  have HB0 := Lib.hid (And.intro hB0 hblk)
  clear hsl hbt hL hm hq hB0 hblk
  go_enter Tryz.func139, Tryz.ntmps139
  go_wp2_with fail
  go_loop [8] (fun ix => ∃ (k : Nat), a + 1 ≤ k ∧ k ≤ s.size ∧ ix = .int .i64 k ∧ digs (l.drop (a + 1)) + (a + 1) = k + digs (l.drop k)) (fun ix => s.size - (intOf ix).toNat)
  case atStart =>
    exact ⟨a + 1, Nat.le_refl _, by omega, by go_num, by omega⟩
  case round =>
    obtain ⟨k, hak, hk, rfl, hrel⟩ := hrel
    have HR := Lib.hid hrel
    clear hrel
    by_cases hc : k < s.size ∧ digB (bt l k) = true
    · obtain ⟨hlt, hd⟩ := hc
      have hbt := bt_of s k hlt
      rw [HL.out] at hbt
      have hst := digs_step (by have := HSL.out; omega) hd
      have HST := Lib.hid hst
      simp only [digB, decide_eq_true_eq] at hd
      obtain ⟨d1, d2⟩ := hd
      rw [← hbt] at d1 d2
      clear hst hbt
      go_wp2_with fail
      go_round
      case rel => exact ⟨k + 1, by omega, by omega, by go_num, by have := HST.out; have := HR.out; omega⟩
      case measure => simp [intOf]; omega
    · have hend : digs (l.drop k) = 0 := by
        by_cases hlt : k < s.size
        · exact digs_stop (by have := HSL.out; omega) (by simpa using fun h => hc ⟨hlt, h⟩)
        · rw [List.drop_of_length_le (by have := HSL.out; omega)]; rfl
      have hn : digs (l.drop (a + 1)) + (a + 1) = k := by have := HR.out; omega
      have hgd : (¬ k < s.size) ∨ (∃ h : k < s.size, ((s[k]'h).toNat : Int) < 48 ∨ (48 ≤ ((s[k]'h).toNat : Int) ∧ 57 < ((s[k]'h).toNat : Int))) := by
        by_cases hlt : k < s.size
        · refine .inr ⟨hlt, ?_⟩
          rw [bt_of s k hlt, HL.out]
          have : ¬ digB (bt l k) = true := fun h => hc ⟨hlt, h⟩
          simp only [digB, decide_eq_true_eq] at this
          omega
        · exact .inl hlt
      have hdl : (s.extract (a + 1) k).data.toList = (l.drop (a + 1)).take (digs (l.drop (a + 1))) := by
        rw [Lib.extract_data, HL.out]; congr 1; omega
      have hnum : refNum l a (a + 1) = if digs (l.drop (a + 1)) = 0 then bad 11
          else if bt l (a + 1) = 48 ∧ (1 < digs (l.drop (a + 1)) ∨ a < a + 1) then bad 12
          else if 19 < digs (l.drop (a + 1)) ∨ digs (l.drop (a + 1)) = 19 ∧ 0 < Lib.compareBytes ((l.drop (a + 1)).take (digs (l.drop (a + 1)))) mostN then bad 12
          else ⟨1, -(dval 0 ((l.drop (a + 1)).take (digs (l.drop (a + 1)))) : Int), [], (a + 1 : Nat) + digs (l.drop (a + 1)), 0⟩ := by
        unfold refNum; simp only [Nat.lt_add_one, if_true]
      have hdig := dig_take (l := l.drop (a + 1))
      have hdlen : ((l.drop (a + 1)).take (digs (l.drop (a + 1)))).length = digs (l.drop (a + 1)) := by
        have := digs_le (l.drop (a + 1))
        rw [List.length_take]; omega
      have hd0 : 0 < digs (l.drop (a + 1)) → bt ((l.drop (a + 1)).take (digs (l.drop (a + 1)))) 0 = bt l (a + 1) := by
        intro h
        obtain ⟨c, r, hl, hc, hdr⟩ := digs_pos h
        have e : bt (l.drop (a + 1)) 0 = bt l (a + 1) := by rw [bt_drop, Nat.add_zero]
        rw [← e, hdr, hl, Nat.add_comm 1, List.take_succ_cons, bt0, bt0]
      generalize hDd : (l.drop (a + 1)).take (digs (l.drop (a + 1))) = D at *
      generalize digs (l.drop (a + 1)) = n at *
      have hke : k = a + 1 + n := by omega
      have HKE := Lib.hid hke
      have HNUM := Lib.hid hnum
      have HDL := Lib.hid hdl
      have HDIG := Lib.hid hdig
      have HLEN := Lib.hid hdlen
      have HD0 := Lib.hid hd0
      have r0 := HB0.out.2.cell 0
      have r1 := HB0.out.2.cell 1
      have r2 := HB0.out.2.cell 2
      have z0 := HB0.out.2.frozen 0
      have z1 := HB0.out.2.frozen 1
      have z2 := HB0.out.2.frozen 2
      simp only [List.getElem?_toArray, List.getElem?_cons_zero, List.getElem?_cons_succ] at r0 r1 r2
      clear hc hend hn hnum hdl hdig hdlen hd0 hDd hke
      by_cases hn0 : n = 0
      · subst hn0
        have hres : refNum l a (a + 1) = bad 11 := by rw [HNUM.out, if_pos rfl]
        have HRES := Lib.hid hres
        obtain rfl : k = a + 1 := HKE.out
        clear hres
        rcases hgd with hg | ⟨hg, hg2 | ⟨hg2, hg3⟩⟩
        all_goals
          try go_wp2_with fail
        all_goals
          refine bodyPost_ret (v := (bad 11).v) (by simp [results, Tryz.results139, go_sem, *]; rfl) rfl ⟨by rw [HRES.out], HB0.out.1⟩
      · have hkf : a + 1 < k := by have := HKE.out; omega
        have hkz : ((k : Int) == (a + 1)) = false := beq_eq_false_iff_ne.2 (by omega)
        have hkz2 : (k == a + 1) = false := beq_eq_false_iff_ne.2 (by omega)
        have hdz : (s.extract (a + 1) k).size = n := by rw [Lib.size_eq, HDL.out, HLEN.out]
        have hd1 : 0 < (s.extract (a + 1) k).size := by omega
        have hdb : (((s.extract (a + 1) k)[0]'hd1).toNat : Int) = bt l (a + 1) := by rw [bt_of _ 0 hd1, HDL.out]; exact HD0.out (by omega)
        have hk0 : 0 < k - (a + 1) := by omega
        have hkn : k - (a + 1) = n := by have := HKE.out; omega
        have HDZ := Lib.hid hdz
        clear hdz
        by_cases hz : bt l (a + 1) = 48 ∧ (1 < n ∨ a < a + 1)
        · have hres : refNum l a (a + 1) = bad 12 := by rw [HNUM.out, if_neg hn0, if_pos hz]
          have HRES := Lib.hid hres
          obtain ⟨hz1, hz2⟩ := hz
          rw [hz1] at hdb
          clear hres hz1
          rcases Nat.lt_or_ge 1 (k - (a + 1)) with hz3 | hz3
          all_goals
            rcases hgd with hg | ⟨hg, hg2 | ⟨hg2, hg3⟩⟩
            all_goals
              go_wp2_with fail
              refine bodyPost_ret (v := (bad 12).v) (by simp [results, Tryz.results139, go_sem, *]; rfl) rfl ⟨by rw [HRES.out], HB0.out.1⟩
        · exfalso; have hx := HMO.out.2; omega
end Go.Proofs.YtgilflkgibfjgaaGreatDoor
