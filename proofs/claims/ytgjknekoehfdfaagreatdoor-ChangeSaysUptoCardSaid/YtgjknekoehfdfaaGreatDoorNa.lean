/- The order of rows: row.Compare, osierref02.Compare, walked. osierref10.ahead and osierref10.alike at any two changes, walked. ValueOrders, walked; the plain law of the order. Plain laws of Net: the order of changes, the document's list, and that a strictly sorted list is known by its members. -/
import Derived.Test.YtgjknekoehfdfaaGreatDoorLe
import Derived.Test.YtgjknekoehfdfaaGreatDoorGb
import Derived.Test.YtgjknekoehfdfaaGreatDoorGm
import Derived.Test.YtgjknekoehfdfaaGreatDoorGa
import Derived.Test.YtgjknekoehfdfaaGreatDoorCc0Z
import Derived.Deep.RegionLaw
import Derived.Shelf.Abstract
import Derived.Sort.Grow
namespace Go.Proofs.YtgjknekoehfdfaaGreatDoor
open Go.RowKit
set_option linter.unusedVariables false

def cmpU (a b : Vl) : Int := cmpV a.k a.n ⟨a.t.toArray⟩ b.k b.n ⟨b.t.toArray⟩
def cmpRow : List Vl → List Vl → Int
  | [], [] => 0
  | [], _ :: _ => -1
  | _ :: _, [] => 1
  | a :: l, b :: m => if cmpU a b = 0 then cmpRow l m else cmpU a b
theorem cmpRow_step {l m : List Vl} {k : Nat} {a b : Vl} (ha : l[k]? = some a) (hb : m[k]? = some b) : cmpRow (l.drop k) (m.drop k) = if cmpU a b = 0 then cmpRow (l.drop (k + 1)) (m.drop (k + 1)) else cmpU a b := by
  rw [List.drop_eq_getElem_cons (List.getElem?_eq_some_iff.1 ha).1, (List.getElem?_eq_some_iff.1 ha).2, List.drop_eq_getElem_cons (List.getElem?_eq_some_iff.1 hb).1, (List.getElem?_eq_some_iff.1 hb).2]
  rfl
theorem cmpRow_long {l m : List Vl} {k : Nat} (ha : k < l.length) (hb : m.length ≤ k) : cmpRow (l.drop k) (m.drop k) = 1 := by
  rw [List.drop_eq_getElem_cons ha, List.drop_eq_nil_of_le hb]
  rfl
theorem cmpRow_end {l m : List Vl} (h : l.length ≤ m.length) : cmpRow (l.drop l.length) (m.drop l.length) = if l.length < m.length then -1 else 0 := by
  rw [List.drop_eq_nil_of_le (Nat.le_refl _)]
  by_cases h1 : l.length < m.length
  · rw [if_pos h1, List.drop_eq_getElem_cons h1]
    rfl
  · rw [if_neg h1, List.drop_eq_nil_of_le (by omega)]
    rfl

/-- A world that grew: blocks laid, questions drawn, nothing turned. -/
structure Grw (w w' : World) : Prop where
  b : Below w.heap.size w w'
  d : w.drawn ≤ w'.drawn
theorem Grw.refl (w : World) : Grw w w := ⟨Below.refl _ _, Nat.le_refl _⟩
theorem Grw.trans {a b c : World} (h : Grw a b) (k : Grw b c) : Grw a c := ⟨bt2 h.b k.b, Nat.le_trans h.d k.d⟩
theorem Grw.alloc {a w : World} (h : Grw a w) (o : Obj) : Grw a (w.alloc o) := ⟨balloc h.b o, h.d⟩
theorem Grw.drew {a w : World} (h : Grw a w) : Grw a w.drew := ⟨bdrew h.b, Nat.le_succ_of_le h.d⟩
theorem Grw.drewN {a w : World} (h : Grw a w) (n : Nat) : Grw a (w.drewN n) := ⟨bdrewN h.b n, Nat.le_trans h.d (Nat.le_add_right _ _)⟩
theorem Grw.form {w w' : World} (h : Grw w w') : ∃ (q : Nat) (os : Array Obj), w' = Sort.grow (w.drewN q) os := by
  refine ⟨w'.drawn - w.drawn, w'.heap.extract w.heap.size w'.heap.size, ?_⟩
  obtain ⟨⟨h1, h2, h3, h4, h5⟩, h6⟩ := h
  obtain ⟨hp, tp, dr, os, out⟩ := w'
  simp only at h1 h2 h3 h4 h5 h6
  subst h1 h2 h3
  unfold Sort.grow World.drewN
  simp only [World.mk.injEq, true_and, and_true]
  refine ⟨?_, by omega⟩
  apply Array.ext_getElem?
  intro i
  by_cases hi : i < w.heap.size
  · rw [Array.getElem?_append_left hi]
    exact h5 i hi
  · rw [Array.getElem?_append_right (by omega), Array.getElem?_extract]
    by_cases h7 : i < hp.size
    · rw [if_pos (by omega)]
      congr 1
      omega
    · rw [if_neg (by omega)]
      exact Array.getElem?_eq_none (by omega)

set_option maxHeartbeats 2000000 in
theorem compareG_any (k1 n1 : Int) (t1 : ByteArray) (k2 n2 : Int) (t2 : ByteArray) (w : World) :
    Calls Tryz.prog 114 #[.agg #[.int .i64 k1, .int .i64 n1, .string t1], .agg #[.int .i64 k2, .int .i64 n2, .string t2]] w fun e w' =>
      e = .returned (.int .i64 (cmpV k1 n1 t1 k2 n2 t2)) ∧ Grw w w' := by
  go_enter Tryz.func114, Tryz.ntmps114
  go_wp2_with fail
  go_region_held3 (fun w' => w'.cell? ⟨w.heap.size, 0, none⟩ = some (.int .i64 k1) ∧ w'.cell? ⟨w.heap.size, 1, none⟩ = some (.int .i64 n1) ∧ w'.cell? ⟨w.heap.size, 2, none⟩ = some (.string t1) ∧
     w'.cell? ⟨w.heap.size + 1, 0, none⟩ = some (.int .i64 k2) ∧ w'.cell? ⟨w.heap.size + 1, 1, none⟩ = some (.int .i64 n2) ∧ w'.cell? ⟨w.heap.size + 1, 2, none⟩ = some (.string t2)) (go_keep)
    (first | (go_at_call 167; refine (cmpKind_any _ _ _).mono ?_; rintro e w' ⟨rfl, rfl⟩)
           | (go_at_call 168; refine (cmpInt_any _ _ _).mono ?_; rintro e w' ⟨rfl, rfl⟩)
           | (go_at_call 169; refine (Tryz.strings_Compare _ _ _).mono ?_; rintro e w' ⟨rfl, rfl⟩)
           | (go_at_call 166; refine (or_any (cmpI k1 k2) (cmpI n1 n2) (Lib.compareBytes t1.data.toList t2.data.toList) _ _ (by simp [go_sem]) (by simp [go_sem]) (by simp [go_sem])).mono ?_; rintro e w' ⟨rfl, rfl⟩))
  go_wp2
  go_ret
  exact ⟨rfl, by repeat (first | exact Grw.refl _ | refine Grw.drewN ?_ _ | refine Grw.drew ?_ | refine Grw.alloc ?_ _)⟩

set_option maxHeartbeats 8000000 in
set_option maxRecDepth 100000 in
theorem compareFuncG_any (w : World) (va vb : Value) (a b : List Vl) (ha : RowAt w va 3 (a.map Vl.cells)) (hb : RowAt w vb 3 (b.map Vl.cells)) :
    Calls Tryz.prog 113 #[va, vb, .func (.func 114) #[] #[]] w fun e w' => e = .returned (.int .i64 (cmpRow a b)) ∧ Grw w w' := by
  have eg := enters_of Tryz.func114 (by kernel_rfl) rfl
  obtain ⟨aa, ac, rfl, hac, ham⟩ := ha.form
  obtain ⟨ba, bc, rfl, hbc, hbm⟩ := hb.form
  have hla := ha.len
  have hlb := hb.len
  unfold maxLen at ham hbm
  simp only [List.length_map] at hac hbc hla hlb ha hb ⊢
  have HA := Lib.hid ha
  have HB := Lib.hid hb
  obtain ⟨RES, hRES⟩ : ∃ RES, RES = cmpRow (a.drop 0) (b.drop 0) := ⟨_, rfl⟩
  rw [show cmpRow a b = RES by rw [hRES]; rfl]
  have HQ0 := Lib.hid hRES
  clear ha hb hRES
  generalize hN : a.length = n at *
  generalize hM : b.length = m at *
  have HN := Lib.hid hN
  have HM := Lib.hid hM
  clear hN hM
  go_enter Tryz.func113, Tryz.ntmps113
  go_wp2_with fail
  go_loopw [13] (fun i wr => ∃ k : Nat, k ≤ n ∧ k ≤ m ∧ i = .int .i64 k ∧ Hid (RES = cmpRow (a.drop k) (b.drop k)) ∧ Hid (Grw w wr)) (fun i _ => n - (intOf i).toNat)
  case atStart => exact ⟨0, Nat.zero_le _, Nat.zero_le _, rfl, HQ0, Lib.hid (Grw.refl _)⟩
  case round =>
    obtain ⟨k, hk, hkm, rfl, HQ, BW⟩ := hrel
    obtain ⟨wo, rfl⟩ : ∃ wo : World, wo = wr := ⟨_, rfl⟩
    clear HQ0
    by_cases hlt : k < n
    · obtain ⟨u, hu⟩ : ∃ u, a[k]? = some u := ⟨a[k]'(by rw [HN.out]; exact hlt), List.getElem?_eq_getElem (by rw [HN.out]; exact hlt)⟩
      obtain ⟨ab, ao, acap, hav, _, _, hal, hac'⟩ := (HA.out.keep BW.out.b).get (i := k) (x := u.cells) (by simp [hu])
      simp only [List.length_map, HN.out, Value.slice.injEq, true_and] at hav
      obtain ⟨rfl, rfl⟩ := hav
      have p0 := hac' 0 _ rfl
      have p1 := hac' 1 _ rfl
      have p2 := hac' 2 _ rfl
      simp only [Nat.add_zero] at p0
      have hdk : decide ((k : Int) < 0) = false := by simp
      have hdn : decide ((n : Int) ≤ (k : Int)) = false := by simp; omega
      by_cases hltm : k < m
      · obtain ⟨v, hv⟩ : ∃ v, b[k]? = some v := ⟨b[k]'(by rw [HM.out]; exact hltm), List.getElem?_eq_getElem (by rw [HM.out]; exact hltm)⟩
        have hst := cmpRow_step hu hv
        have HCV := Lib.hid (fun W => compareG_any u.k u.n ⟨u.t.toArray⟩ v.k v.n ⟨v.t.toArray⟩ W)
        obtain ⟨bb, bo, bcap, hbv, _, _, hbl, hbc'⟩ := (HB.out.keep (BW.out.alloc (.cells #[.int .i64 u.k, .int .i64 u.n, .string ⟨u.t.toArray⟩] 74)).b).get (i := k) (x := v.cells) (by simp [hv])
        simp only [List.length_map, HM.out, Value.slice.injEq, true_and] at hbv
        obtain ⟨rfl, rfl⟩ := hbv
        have r0 := hbc' 0 _ rfl
        have r1 := hbc' 1 _ rfl
        have r2 := hbc' 2 _ rfl
        simp only [Nat.add_zero] at r0
        have hdm : decide ((m : Int) ≤ (k : Int)) = false := by simp; omega
        have bk : Grw wo ((wo.alloc (.cells #[.int .i64 u.k, .int .i64 u.n, .string ⟨u.t.toArray⟩] 74)).alloc (.cells #[.int .i64 v.k, .int .i64 v.n, .string ⟨v.t.toArray⟩] 74)) := ((Grw.refl _).alloc _).alloc _
        have x8 := (Blk.new wo 74 #[.int .i64 u.k, .int .i64 u.n, .string ⟨u.t.toArray⟩])
        obtain ⟨W1, hW1⟩ : ∃ W1, wo.alloc (.cells #[.int .i64 u.k, .int .i64 u.n, .string ⟨u.t.toArray⟩] 74) = W1 := ⟨_, rfl⟩
        rw [hW1] at bk x8 r0 r1 r2 hbl
        have x9 := Blk.new W1 74 #[.int .i64 v.k, .int .i64 v.n, .string ⟨v.t.toArray⟩]
        have x8' := x8.alloc (.cells #[.int .i64 v.k, .int .i64 v.n, .string ⟨v.t.toArray⟩] 74)
        obtain ⟨W2, hW2⟩ : ∃ W2, W1.alloc (.cells #[.int .i64 v.k, .int .i64 v.n, .string ⟨v.t.toArray⟩] 74) = W2 := ⟨_, rfl⟩
        rw [hW2] at bk x9 x8'
        have c0 := x8'.cell 0
        have c1 := x8'.cell 1
        have c2 := x8'.cell 2
        have cl := x8'.lt
        have d0 := x9.cell 0
        have d1 := x9.cell 1
        have d2 := x9.cell 2
        have dl := x9.lt
        simp only [List.getElem?_toArray, List.getElem?_cons_zero, List.getElem?_cons_succ] at c0 c1 c2 d0 d1 d2
        have HW1 := Lib.hid hW1
        have HW2 := Lib.hid hW2
        have HBK := Lib.hid bk
        have HST := Lib.hid hst
        clear hu hv hst bk x8 x9 x8' hW1 hW2 hac' hbc'
        go_upto_region 4 with fail
        rw [HW1.out]
        clear p0 p1 p2
        go_upto_region 7 with fail
        rw [HW2.out]
        clear r0 r1 r2
        go_wp2_with fail
        refine (HCV.out W2).mono ?_
        rintro e w5 ⟨rfl, hb5⟩
        have HB5 := Lib.hid (BW.out.trans (HBK.out.trans hb5))
        clear hb5 c0 c1 c2 cl d0 d1 d2 dl
        obtain ⟨cc, hcc⟩ : ∃ cc, cmpU u v = cc := ⟨_, rfl⟩
        rw [show cmpV u.k u.n ⟨u.t.toArray⟩ v.k v.n ⟨v.t.toArray⟩ = cc from hcc]
        have hq := HQ.out.trans HST.out
        rw [hcc] at hq
        by_cases h0 : cc = 0
        · have q0 : (cc != 0) = false := by simp [h0]
          rw [if_pos h0] at hq
          have HQ2 := Lib.hid hq
          clear h0 hq hcc
          go_wp2_with fail
          go_roundw
          case rel => exact ⟨k + 1, by omega, by omega, by go_num, HQ2, HB5⟩
          case measure => simp [intOf]; omega
        · have q0 : (cc != 0) = true := by simpa using h0
          rw [if_neg h0] at hq
          subst hq
          clear h0 hcc
          go_wp2_with fail
          go_ret
          exact ⟨by first | rfl | simp, HB5.out⟩
      · obtain rfl : k = m := by omega
        have hq := HQ.out
        rw [cmpRow_long (by rw [HN.out]; exact hlt) (by rw [HM.out]; exact Nat.le_refl _)] at hq
        subst hq
        have hdm : decide ((k : Int) ≤ (k : Int)) = true := by simp
        have HBX := Lib.hid (BW.out.alloc (.cells #[.int .i64 u.k, .int .i64 u.n, .string ⟨u.t.toArray⟩] 74))
        clear hu hac'
        go_wp2_with fail
        go_ret
        exact ⟨by first | rfl | simp, HBX.out⟩
    · obtain rfl : k = n := by omega
      have hq := HQ.out
      have he := cmpRow_end (l := a) (m := b) (by rw [HN.out, HM.out]; exact hkm)
      rw [HN.out, HM.out] at he
      rw [he] at hq
      by_cases h1 : k < m
      · rw [if_pos h1] at hq
        subst hq
        have hd1 : decide ((k : Int) < (m : Int)) = true := by simp; omega
        go_wp2_with fail
        go_ret
        exact ⟨by first | rfl | simp, BW.out⟩
      · rw [if_neg h1] at hq
        subst hq
        have hd1 : decide ((k : Int) < (m : Int)) = false := by simp; omega
        go_wp2_with fail
        go_ret
        exact ⟨by first | rfl | simp, BW.out⟩

set_option maxHeartbeats 2000000 in
set_option maxRecDepth 100000 in
theorem rowCompareG_any (w : World) (va vb : Value) (a b : List Vl) (ha : RowAt w va 3 (a.map Vl.cells)) (hb : RowAt w vb 3 (b.map Vl.cells)) :
    Calls Tryz.prog 42 #[va, vb] w fun e w' => e = .returned (.int .i64 (cmpRow a b)) ∧ Grw w w' := by
  have hc := compareFuncG_any w va vb a b ha hb
  obtain ⟨aa, ac, rfl, _, _⟩ := ha.form
  obtain ⟨ba, bc, rfl, _, _⟩ := hb.form
  simp only [List.length_map] at hc ⊢
  have HC := Lib.hid hc
  clear ha hb hc
  generalize a.length = n at *
  generalize b.length = m at *
  go_enter Tryz.func42, Tryz.ntmps42
  go_wp2_with fail
  refine HC.out.mono ?_
  rintro e w1 ⟨rfl, hb1⟩
  have HB1 := Lib.hid hb1
  clear hb1
  go_wp2_with fail
  go_ret
  exact ⟨by first | rfl | simp, HB1.out⟩

theorem rowCompare_any (w : World) (va vb : Value) (a b : List Vl) (ha : RowAt w va 3 (a.map Vl.cells)) (hb : RowAt w vb 3 (b.map Vl.cells)) :
    Calls Tryz.prog 42 #[va, vb] w fun e w' => e = .returned (.int .i64 (cmpRow a b)) ∧ Below w.heap.size w w' :=
  (rowCompareG_any w va vb a b ha hb).mono fun _ _ h => ⟨h.1, h.2.b⟩

set_option maxHeartbeats 8000000 in
set_option maxRecDepth 100000 in
theorem refRowCompare_any (w : World) (va vb : Value) (a b : List Vl) (ha : RowAt w va 3 (a.map Vl.cells)) (hb : RowAt w vb 3 (b.map Vl.cells)) (ht : ∀ u ∈ a, u.t.length ≤ 281474976710656) :
    Calls Tryz.prog 123 #[va, vb] w fun e w' => e = .returned (.int .i64 (cmpRow a b)) ∧ Below w.heap.size w w' := by
  obtain ⟨aa, ac, rfl, hac, ham⟩ := ha.form
  obtain ⟨ba, bc, rfl, hbc, hbm⟩ := hb.form
  have hla := ha.len
  have hlb := hb.len
  unfold maxLen at ham hbm
  simp only [List.length_map] at hac hbc hla hlb ha hb ⊢
  have HA := Lib.hid ha
  have HB := Lib.hid hb
  have HT := Lib.hid ht
  obtain ⟨RES, hRES⟩ : ∃ RES, RES = cmpRow (a.drop 0) (b.drop 0) := ⟨_, rfl⟩
  rw [show cmpRow a b = RES by rw [hRES]; rfl]
  have HQ0 := Lib.hid hRES
  clear ha hb hRES ht
  generalize hN : a.length = n at *
  generalize hM : b.length = m at *
  have HN := Lib.hid hN
  have HM := Lib.hid hM
  clear hN hM
  go_enter Tryz.func123, Tryz.ntmps123
  go_wp2_with fail
  go_loopw [5] (fun i wr => ∃ k : Nat, k ≤ n ∧ k ≤ m ∧ i = .int .i64 k ∧ Hid (RES = cmpRow (a.drop k) (b.drop k)) ∧ Hid (Below w.heap.size w wr)) (fun i _ => n - (intOf i).toNat)
  case atStart => exact ⟨0, Nat.zero_le _, Nat.zero_le _, rfl, HQ0, Lib.hid (Below.refl _ _)⟩
  case round =>
    obtain ⟨k, hk, hkm, rfl, HQ, BW⟩ := hrel
    obtain ⟨wo, rfl⟩ : ∃ wo : World, wo = wr := ⟨_, rfl⟩
    clear HQ0
    by_cases hlt : k < n
    · have hdk : decide ((k : Int) < 0) = false := by simp
      have hdn : decide ((n : Int) ≤ (k : Int)) = false := by simp; omega
      by_cases hltm : k < m
      · obtain ⟨u, hu⟩ : ∃ u, a[k]? = some u := ⟨a[k]'(by rw [HN.out]; exact hlt), List.getElem?_eq_getElem (by rw [HN.out]; exact hlt)⟩
        obtain ⟨v, hv⟩ : ∃ v, b[k]? = some v := ⟨b[k]'(by rw [HM.out]; exact hltm), List.getElem?_eq_getElem (by rw [HM.out]; exact hltm)⟩
        obtain ⟨ab, ao, acap, hav, _, _, hal, hac'⟩ := (HA.out.keep BW.out).get (i := k) (x := u.cells) (by simp [hu])
        simp only [List.length_map, HN.out, Value.slice.injEq, true_and] at hav
        obtain ⟨rfl, rfl⟩ := hav
        have p0 := hac' 0 _ rfl
        have p1 := hac' 1 _ rfl
        have p2 := hac' 2 _ rfl
        obtain ⟨bb, bo, bcap, hbv, _, _, hbl, hbc'⟩ := (HB.out.keep BW.out).get (i := k) (x := v.cells) (by simp [hv])
        simp only [List.length_map, HM.out, Value.slice.injEq, true_and] at hbv
        obtain ⟨rfl, rfl⟩ := hbv
        have r0 := hbc' 0 _ rfl
        have r1 := hbc' 1 _ rfl
        have r2 := hbc' 2 _ rfl
        simp only [Nat.add_zero] at p0 r0
        have hdm : decide ((m : Int) ≤ (k : Int)) = false := by simp; omega
        have hst := cmpRow_step hu hv
        have hts := HT.out u (List.mem_of_getElem? hu)
        have HCV := Lib.hid (fun W => refCompare_any u.k u.n ⟨u.t.toArray⟩ v.k v.n ⟨v.t.toArray⟩ W (by simpa [ByteArray.size] using hts))
        have HST := Lib.hid hst
        clear hu hv hst hac' hbc' hts
        go_wp2_with fail
        go_region_law (go_simp; go_at_call 182; refine (HCV.out _).mono ?_; rintro e w5 ⟨rfl, hb5⟩; have HB5 := Lib.hid (bt2 (bdrew (Below.refl wo.heap.size wo)) hb5); clear hb5)
        all_goals
          have HB6 := Lib.hid (BW.out.trans (HB5.out.mono BW.out.size))
          clear p0 p1 p2 r0 r1 r2
          obtain ⟨cc, hcc⟩ : ∃ cc, cmpU u v = cc := ⟨_, rfl⟩
          rw [show cmpV u.k u.n ⟨u.t.toArray⟩ v.k v.n ⟨v.t.toArray⟩ = cc from hcc]
          have hq := HQ.out.trans HST.out
          rw [hcc] at hq
          by_cases h0 : cc = 0
          · have q0 : (cc != 0) = false := by simp [h0]
            rw [if_pos h0] at hq
            have HQ2 := Lib.hid hq
            clear h0 hq hcc
            go_wp2_with fail
            go_roundw
            case rel => exact ⟨k + 1, by omega, by omega, by go_num, HQ2, HB6⟩
            case measure => simp [intOf]; omega
          · have q0 : (cc != 0) = true := by simpa using h0
            rw [if_neg h0] at hq
            subst hq
            clear h0 hcc
            go_wp2_with fail
            go_ret
            exact ⟨by first | rfl | simp, HB6.out⟩
      · obtain rfl : k = m := by omega
        have hq := HQ.out
        rw [cmpRow_long (by rw [HN.out]; exact hlt) (by rw [HM.out]; exact Nat.le_refl _)] at hq
        subst hq
        have hdm : decide ((k : Int) ≤ (k : Int)) = true := by simp
        go_wp2_with fail
        go_ret
        exact ⟨by first | rfl | simp, BW.out⟩
    · obtain rfl : k = n := by omega
      have hq := HQ.out
      have he := cmpRow_end (l := a) (m := b) (by rw [HN.out, HM.out]; exact hkm)
      rw [HN.out, HM.out] at he
      rw [he] at hq
      by_cases h1 : k < m
      · rw [if_pos h1] at hq
        subst hq
        have hd1 : decide ((k : Int) < (m : Int)) = true := by simp; omega
        go_wp2_with fail
        go_ret
        exact ⟨by first | rfl | simp, BW.out⟩
      · rw [if_neg h1] at hq
        subst hq
        have hd1 : decide ((k : Int) < (m : Int)) = false := by simp; omega
        go_wp2_with fail
        go_ret
        exact ⟨by first | rfl | simp, BW.out⟩
end Go.Proofs.YtgjknekoehfdfaaGreatDoor
namespace Go.Proofs.YtgjknekoehfdfaaGreatDoor
open Go.RowKit
set_option linter.unusedVariables false

def cmpC (a b : Chg) : Int := if Lib.compareBytes a.rel b.rel = 0 then cmpRow a.row b.row else Lib.compareBytes a.rel b.rel
def aheadC (a b : Chg) : Bool := decide (cmpC a b < 0)
def alikeC (a b : Chg) : Bool := decide (a.rel = b.rel) && sameV a.row b.row

set_option maxHeartbeats 4000000 in
set_option maxRecDepth 100000 in
theorem alikeC_any (w : World) (c d : Chg) (rv ru : Value) (h : RowAt w rv 3 (c.row.map Vl.cells)) (h2 : RowAt w ru 3 (d.row.map Vl.cells)) :
    Calls Tryz.prog 40 #[.agg #[.bool c.add, .string ⟨c.rel.toArray⟩, rv], .agg #[.bool d.add, .string ⟨d.rel.toArray⟩, ru]] w fun e w' => e = .returned (.bool (alikeC c d)) ∧ Below w.heap.size w w' := by
  have hb0 : Below w.heap.size w ((w.alloc (.cells #[.bool c.add, .string ⟨c.rel.toArray⟩, rv] 30)).alloc (.cells #[.bool d.add, .string ⟨d.rel.toArray⟩, ru] 30)) := balloc (balloc (Below.refl _ _) _) _
  have hsm := sameRow_any _ rv ru c.row d.row (h.keep hb0) (h2.keep hb0)
  obtain ⟨ra, rc, rfl, _, _⟩ := h.form
  obtain ⟨ua, uc, rfl, _, _⟩ := h2.form
  have HSM := Lib.hid hsm
  have HB0 := Lib.hid hb0
  clear h h2 hsm hb0
  unfold alikeC
  generalize sameV c.row d.row = sv at *
  generalize (c.row.map Vl.cells).length = n at *
  generalize (d.row.map Vl.cells).length = m at *
  generalize c.add = ad at *
  generalize d.add = ad2 at *
  by_cases hn : c.rel = d.rel
  · rw [← hn] at HSM HB0 ⊢
    rw [decide_eq_true rfl]
    clear hn
    generalize c.rel = nm at *
    go_enter Tryz.func40, Tryz.ntmps40
    go_wp2_with fail
    refine HSM.out.mono ?_
    rintro e w6 ⟨rfl, hb6⟩
    have HB6 := Lib.hid (HB0.out.trans (hb6.mono HB0.out.size))
    clear hb6
    go_wp2_with fail
    go_ret
    exact ⟨by first | rfl | simp, HB6.out⟩
  · rw [decide_eq_false hn]
    have hne : ¬ ((⟨c.rel.toArray⟩ : ByteArray).toList = (⟨d.rel.toArray⟩ : ByteArray).toList) := fun e => hn (by simpa [ByteArray.toList_eq] using e)
    clear hn
    generalize (⟨c.rel.toArray⟩ : ByteArray) = nm at *
    generalize (⟨d.rel.toArray⟩ : ByteArray) = nm2 at *
    go_enter Tryz.func40, Tryz.ntmps40
    go_wp2_with fail
    go_ret
    exact ⟨by first | rfl | simp, HB0.out⟩

set_option maxHeartbeats 4000000 in
set_option maxRecDepth 100000 in
theorem ahead_any (w : World) (c d : Chg) (rv ru : Value) (h : RowAt w rv 3 (c.row.map Vl.cells)) (h2 : RowAt w ru 3 (d.row.map Vl.cells)) (hr : c.rel.length ≤ 281474976710656) (ht : ∀ u ∈ c.row, u.t.length ≤ 281474976710656) :
    Calls Tryz.prog 49 #[.agg #[.bool c.add, .string ⟨c.rel.toArray⟩, rv], .agg #[.bool d.add, .string ⟨d.rel.toArray⟩, ru]] w fun e w' => e = .returned (.bool (aheadC c d)) ∧ Below w.heap.size w w' := by
  have hb0 : Below w.heap.size w ((w.alloc (.cells #[.bool c.add, .string ⟨c.rel.toArray⟩, rv] 30)).alloc (.cells #[.bool d.add, .string ⟨d.rel.toArray⟩, ru] 30)) := balloc (balloc (Below.refl _ _) _) _
  have hk1 : Blk ((w.alloc (.cells #[.bool c.add, .string ⟨c.rel.toArray⟩, rv] 30)).alloc (.cells #[.bool d.add, .string ⟨d.rel.toArray⟩, ru] 30)) w.heap.size 30 #[.bool c.add, .string ⟨c.rel.toArray⟩, rv] := (Blk.new w _ _).alloc _
  have hk2 := blkNew1 w (.cells #[.bool c.add, .string ⟨c.rel.toArray⟩, rv] 30) 30 #[.bool d.add, .string ⟨d.rel.toArray⟩, ru]
  have hsm := fun W (hB : Below w.heap.size w W) => refRowCompare_any W rv ru c.row d.row (h.keep hB) (h2.keep hB) ht
  have htx := fun W => texts_any ⟨c.rel.toArray⟩ ⟨d.rel.toArray⟩ W (by simpa [ByteArray.size] using hr)
  obtain ⟨ra, rc, rfl, _, _⟩ := h.form
  obtain ⟨ua, uc, rfl, _, _⟩ := h2.form
  have HSM := Lib.hid hsm
  have HTX := Lib.hid htx
  have HB0 := Lib.hid hb0
  have HK1 := Lib.hid hk1
  have HK2 := Lib.hid hk2
  clear h h2 hsm hb0 htx hr ht hk1 hk2
  unfold aheadC cmpC
  obtain ⟨RES, hRES⟩ : ∃ RES, RES = decide ((if Lib.compareBytes c.rel d.rel = 0 then cmpRow c.row d.row else Lib.compareBytes c.rel d.rel) < 0) := ⟨_, rfl⟩
  rw [← hRES]
  rw [show (⟨c.rel.toArray⟩ : ByteArray).data.toList = c.rel by simp, show (⟨d.rel.toArray⟩ : ByteArray).data.toList = d.rel by simp] at HTX
  generalize (c.row.map Vl.cells).length = n at *
  generalize (d.row.map Vl.cells).length = m at *
  generalize c.add = ad at *
  generalize d.add = ad2 at *
  generalize cmpRow c.row d.row = cr at *
  generalize Lib.compareBytes c.rel d.rel = ct at *
  generalize (⟨c.rel.toArray⟩ : ByteArray) = nm at *
  generalize (⟨d.rel.toArray⟩ : ByteArray) = nm2 at *
  go_enter Tryz.func49, Tryz.ntmps49
  go_wp2_with fail
  refine (HTX.out _).mono ?_
  rintro e w6 ⟨rfl, hb6⟩
  have HB6 := Lib.hid (HB0.out.trans (hb6.mono HB0.out.size))
  have k1 : w6.cell? ⟨w.heap.size, 2, none⟩ = some (.slice ra n rc) := (Blk.below HK1.out hb6 HK1.out.lt).cell 2
  have k2 : w6.cell? ⟨w.heap.size + 1, 2, none⟩ = some (.slice ua m uc) := (Blk.below HK2.out hb6 HK2.out.lt).cell 2
  have hz6 : w.heap.size + 2 ≤ w6.heap.size := by have := hb6.size; simpa using this
  clear hb6
  by_cases h0 : ct = 0
  · subst h0
    have q0 : ((0 : Int) != 0) = false := by simp
    rw [if_pos rfl] at hRES
    have HR := Lib.hid hRES
    clear hRES
    go_wp2_with fail
    refine (HSM.out _ HB6.out).mono ?_
    rintro e w7 ⟨rfl, hb7⟩
    have HB7 := Lib.hid (HB6.out.trans (hb7.mono HB6.out.size))
    clear hb7
    go_wp2_with fail
    go_ret
    exact ⟨by rw [HR.out]; rfl, HB7.out⟩
  · have q0 : (ct != 0) = true := by simpa using h0
    rw [if_neg h0] at hRES
    have HR := Lib.hid hRES
    clear hRES h0
    go_wp2_with fail
    go_ret
    exact ⟨by rw [HR.out]; rfl, HB6.out⟩
end Go.Proofs.YtgjknekoehfdfaaGreatDoor
namespace Go.Proofs.YtgjknekoehfdfaaGreatDoor
open Go.RowKit

theorem bcell {W w1 : World} (hb : Below W.heap.size W w1) : (∀ b o, b < W.heap.size → w1.cell? ⟨b, o, none⟩ = W.cell? ⟨b, o, none⟩) ∧ (∀ b o, b < W.heap.size → w1.frozen? ⟨b, o, none⟩ = W.frozen? ⟨b, o, none⟩) :=
  ⟨fun b o h => hb.cell (p := ⟨b, o, none⟩) h, fun b o h => hb.frozen (p := ⟨b, o, none⟩) h⟩

theorem cmpI_vals (a b : Int) : cmpI a b = -1 ∧ a < b ∨ cmpI a b = 0 ∧ a = b ∨ cmpI a b = 1 ∧ b < a := by
  unfold cmpI; by_cases h : a < b
  · simp [h]
  · by_cases h2 : b < a
    · simp [h, h2]
    · simp [h, h2]; omega

theorem cb_vals : ∀ (a b : List UInt8), Lib.compareBytes a b = -1 ∨ Lib.compareBytes a b = 0 ∨ Lib.compareBytes a b = 1
  | [], [] => by simp [Lib.compareBytes]
  | [], _ :: _ => by simp [Lib.compareBytes]
  | _ :: _, [] => by simp [Lib.compareBytes]
  | x :: a, y :: b => by
    unfold Lib.compareBytes
    split
    · simp
    · split
      · simp
      · exact cb_vals a b

theorem cb_refl : ∀ (a : List UInt8), Lib.compareBytes a a = 0
  | [] => rfl
  | x :: a => by unfold Lib.compareBytes; simp [UInt8.lt_irrefl, cb_refl a]

theorem cb_eq : ∀ (a b : List UInt8), Lib.compareBytes a b = 0 → a = b
  | [], [], _ => rfl
  | [], _ :: _, h => by simp [Lib.compareBytes] at h
  | _ :: _, [], h => by simp [Lib.compareBytes] at h
  | x :: a, y :: b, h => by
    unfold Lib.compareBytes at h
    by_cases h1 : x < y
    · simp [h1] at h
    · by_cases h2 : y < x
      · simp [h1, h2] at h
      · simp [h1, h2] at h
        have e : x = y := by
          have := UInt8.le_antisymm (UInt8.not_lt.1 h2) (UInt8.not_lt.1 h1)
          exact this
        rw [e, cb_eq a b h]

theorem cb_anti : ∀ (a b : List UInt8), Lib.compareBytes b a = -Lib.compareBytes a b
  | [], [] => rfl
  | [], _ :: _ => rfl
  | _ :: _, [] => rfl
  | x :: a, y :: b => by
    unfold Lib.compareBytes
    by_cases h1 : x < y
    · have h2 : ¬ y < x := fun h => UInt8.lt_irrefl x (UInt8.lt_trans h1 h)
      simp [h1, h2]
    · by_cases h2 : y < x
      · simp [h1, h2]
      · simp [h1, h2]; exact cb_anti a b

theorem cb_trans : ∀ (a b c : List UInt8), Lib.compareBytes a b ≤ 0 → Lib.compareBytes b c ≤ 0 → Lib.compareBytes a c ≤ 0
  | [], _, [], _, _ => by simp [Lib.compareBytes]
  | [], _, _ :: _, _, _ => by simp [Lib.compareBytes]
  | _ :: _, [], _, h, _ => by simp [Lib.compareBytes] at h
  | _ :: _, _ :: _, [], _, h => by simp [Lib.compareBytes] at h
  | x :: a, y :: b, z :: c, h, k => by
    unfold Lib.compareBytes at h k ⊢
    by_cases h1 : x < y
    · by_cases k1 : y < z
      · simp [UInt8.lt_trans h1 k1]
      · by_cases k2 : z < y
        · simp [k1, k2] at k
        · have e : y = z := UInt8.le_antisymm (UInt8.not_lt.1 k2) (UInt8.not_lt.1 k1)
          simp [e ▸ h1]
    · by_cases h2 : y < x
      · simp [h1, h2] at h
      · have e : x = y := UInt8.le_antisymm (UInt8.not_lt.1 h2) (UInt8.not_lt.1 h1)
        subst e
        by_cases k1 : x < z
        · simp [k1]
        · by_cases k2 : z < x
          · simp [k1, k2] at k
          · simp [h1] at h
            simp [k1, k2] at k
            simp [k1, k2]
            exact cb_trans a b c h k

theorem cmpV_vals (k1 n1 : Int) (t1 : ByteArray) (k2 n2 : Int) (t2 : ByteArray) : cmpV k1 n1 t1 k2 n2 t2 = -1 ∨ cmpV k1 n1 t1 k2 n2 t2 = 0 ∨ cmpV k1 n1 t1 k2 n2 t2 = 1 := by
  unfold cmpV orI
  rcases cmpI_vals k1 k2 with ⟨e, h⟩ | ⟨e, h⟩ | ⟨e, h⟩ <;> simp only [e]
  · simp
  · rcases cmpI_vals n1 n2 with ⟨e', h'⟩ | ⟨e', h'⟩ | ⟨e', h'⟩ <;> simp only [e']
    · simp
    · simpa using cb_vals _ _
    · simp
  · simp

theorem cmpI_anti (a b : Int) : cmpI b a = - cmpI a b := by
  rcases cmpI_vals a b with ⟨e, h⟩ | ⟨e, h⟩ | ⟨e, h⟩ <;> rcases cmpI_vals b a with ⟨e', h'⟩ | ⟨e', h'⟩ | ⟨e', h'⟩ <;> rw [e, e'] <;> omega

theorem orI_neg (x y z : Int) : orI (-x) (-y) (-z) = -orI x y z := by
  unfold orI; by_cases h : x = 0 <;> by_cases h' : y = 0 <;> simp [h, h']

theorem cmpV_anti (k1 n1 : Int) (t1 : ByteArray) (k2 n2 : Int) (t2 : ByteArray) : cmpV k2 n2 t2 k1 n1 t1 = -cmpV k1 n1 t1 k2 n2 t2 := by
  unfold cmpV
  rw [cmpI_anti k1 k2, cmpI_anti n1 n2, cb_anti t1.data.toList t2.data.toList, orI_neg]

theorem bytes_ext {a b : ByteArray} (h : a.data.toList = b.data.toList) : a = b := by
  cases a; cases b; congr; exact Array.toList_inj.1 h

theorem cmpV_eq {k1 n1 : Int} {t1 : ByteArray} {k2 n2 : Int} {t2 : ByteArray} (h : cmpV k1 n1 t1 k2 n2 t2 = 0) : k1 = k2 ∧ n1 = n2 ∧ t1 = t2 := by
  unfold cmpV orI at h
  rcases cmpI_vals k1 k2 with ⟨e, h1⟩ | ⟨e, h1⟩ | ⟨e, h1⟩ <;> simp only [e] at h
  · simp at h
  · rcases cmpI_vals n1 n2 with ⟨e', h2⟩ | ⟨e', h2⟩ | ⟨e', h2⟩ <;> simp only [e'] at h
    · simp at h
    · exact ⟨h1, h2, bytes_ext (cb_eq _ _ (by simpa using h))⟩
    · simp at h
  · simp at h

theorem cmpI_refl (a : Int) : cmpI a a = 0 := by simp [cmpI]
theorem cmpV_refl (k n : Int) (t : ByteArray) : cmpV k n t k n t = 0 := by simp [cmpV, cmpI_refl, cb_refl, orI]

theorem cmpV_le {k1 n1 : Int} {t1 : ByteArray} {k2 n2 : Int} {t2 : ByteArray} : cmpV k1 n1 t1 k2 n2 t2 ≤ 0 ↔ (k1 < k2 ∨ k1 = k2 ∧ (n1 < n2 ∨ n1 = n2 ∧ Lib.compareBytes t1.data.toList t2.data.toList ≤ 0)) := by
  unfold cmpV orI
  rcases cmpI_vals k1 k2 with ⟨e, h⟩ | ⟨e, h⟩ | ⟨e, h⟩ <;> simp only [e]
  · simp; left; exact h
  · rcases cmpI_vals n1 n2 with ⟨e', h'⟩ | ⟨e', h'⟩ | ⟨e', h'⟩ <;> simp only [e']
    · simp; omega
    · simp [h, h']
    · simp; omega
  · simp; omega

theorem cmpV_trans {k1 n1 : Int} {t1 : ByteArray} {k2 n2 : Int} {t2 : ByteArray} {k3 n3 : Int} {t3 : ByteArray} (h : cmpV k1 n1 t1 k2 n2 t2 ≤ 0) (k : cmpV k2 n2 t2 k3 n3 t3 ≤ 0) : cmpV k1 n1 t1 k3 n3 t3 ≤ 0 := by
  rw [cmpV_le] at h k ⊢
  rcases h with h | ⟨h, h'⟩ <;> rcases k with k | ⟨k, k'⟩
  · omega
  · omega
  · omega
  · right
    refine ⟨by omega, ?_⟩
    rcases h' with h' | ⟨h1, h2⟩ <;> rcases k' with k' | ⟨k1', k2'⟩
    · omega
    · omega
    · omega
    · right; exact ⟨by omega, cb_trans _ _ _ h2 k2'⟩

theorem cmpV_int {n1 n2 : Int} {t : ByteArray} (k : Int) : cmpV k n1 t k n2 t = cmpI n1 n2 := by
  unfold cmpV orI
  rw [cmpI_refl, cb_refl]
  by_cases h : cmpI n1 n2 = 0 <;> simp [h]
end Go.Proofs.YtgjknekoehfdfaaGreatDoor
namespace Go.Proofs.YtgjknekoehfdfaaGreatDoor
open Go.RowKit
set_option linter.unusedVariables false

theorem cmpU_anti (a b : Vl) : cmpU b a = -cmpU a b := cmpV_anti _ _ _ _ _ _
theorem cmpU_self (a : Vl) : cmpU a a = 0 := cmpV_refl _ _ _
theorem cmpU_eq {a b : Vl} (h : cmpU a b = 0) : a = b := by
  obtain ⟨h1, h2, h3⟩ := cmpV_eq h
  have h4 : a.t = b.t := bytes_eq.1 h3
  cases a
  cases b
  simp_all
theorem cmpU_trans {a b c : Vl} (h : cmpU a b < 0) (k : cmpU b c < 0) : cmpU a c < 0 := by
  have h1 : cmpU a c ≤ 0 := cmpV_trans (Int.le_of_lt h) (Int.le_of_lt k)
  by_cases h2 : cmpU a c = 0
  · obtain rfl := cmpU_eq h2
    have := cmpU_anti a b
    omega
  · omega
theorem cb_ltTrans {a b c : List UInt8} (h : Lib.compareBytes a b < 0) (k : Lib.compareBytes b c < 0) : Lib.compareBytes a c < 0 := by
  have h1 : Lib.compareBytes a c ≤ 0 := cb_trans _ _ _ (Int.le_of_lt h) (Int.le_of_lt k)
  by_cases h2 : Lib.compareBytes a c = 0
  · obtain rfl := cb_eq _ _ h2
    have := cb_anti a b
    omega
  · omega

theorem cmpRow_anti : ∀ (a b : List Vl), cmpRow b a = -cmpRow a b
  | [], [] => rfl
  | [], _ :: _ => rfl
  | _ :: _, [] => rfl
  | a :: l, b :: m => by
    show (if cmpU b a = 0 then cmpRow m l else cmpU b a) = -(if cmpU a b = 0 then cmpRow l m else cmpU a b)
    rw [cmpU_anti a b, cmpRow_anti l m]
    by_cases h : cmpU a b = 0 <;> simp [h]
theorem cmpRow_self : ∀ (a : List Vl), cmpRow a a = 0
  | [] => rfl
  | a :: l => by
    show (if cmpU a a = 0 then cmpRow l l else cmpU a a) = 0
    rw [if_pos (cmpU_self a), cmpRow_self l]
theorem cmpRow_eq : ∀ (a b : List Vl), cmpRow a b = 0 → a = b
  | [], [], _ => rfl
  | [], _ :: _, h => by simp [cmpRow] at h
  | _ :: _, [], h => by simp [cmpRow] at h
  | a :: l, b :: m, h => by
    rw [show cmpRow (a :: l) (b :: m) = if cmpU a b = 0 then cmpRow l m else cmpU a b from rfl] at h
    by_cases h0 : cmpU a b = 0
    · rw [if_pos h0] at h
      rw [cmpU_eq h0, cmpRow_eq l m h]
    · rw [if_neg h0] at h
      exact absurd h h0
theorem cmpRow_trans : ∀ (a b c : List Vl), cmpRow a b < 0 → cmpRow b c < 0 → cmpRow a c < 0
  | [], [], _, h, _ => by simp [cmpRow] at h
  | [], _ :: _, [], _, h => by simp [cmpRow] at h
  | [], _ :: _, _ :: _, _, _ => by simp [cmpRow]
  | _ :: _, [], _, h, _ => by simp [cmpRow] at h
  | _ :: _, _ :: _, [], _, h => by simp [cmpRow] at h
  | a :: l, b :: m, c :: n, h, k => by
    rw [show cmpRow (a :: l) (b :: m) = if cmpU a b = 0 then cmpRow l m else cmpU a b from rfl] at h
    rw [show cmpRow (b :: m) (c :: n) = if cmpU b c = 0 then cmpRow m n else cmpU b c from rfl] at k
    show (if cmpU a c = 0 then cmpRow l n else cmpU a c) < 0
    by_cases h0 : cmpU a b = 0
    · rw [if_pos h0] at h
      obtain rfl := cmpU_eq h0
      by_cases h1 : cmpU a c = 0
      · rw [if_pos h1] at k ⊢
        exact cmpRow_trans l m n h k
      · rw [if_neg h1] at k ⊢
        exact k
    · rw [if_neg h0] at h
      by_cases h1 : cmpU b c = 0
      · obtain rfl := cmpU_eq h1
        rw [if_neg h0]
        exact h
      · rw [if_neg h1] at k
        have h2 := cmpU_trans h k
        rw [if_neg (by omega)]
        exact h2

theorem cmpC_anti (a b : Chg) : cmpC b a = -cmpC a b := by
  unfold cmpC
  rw [cb_anti a.rel b.rel, cmpRow_anti a.row b.row]
  by_cases h : Lib.compareBytes a.rel b.rel = 0 <;> simp [h]
theorem cmpC_self (a : Chg) : cmpC a a = 0 := by
  unfold cmpC
  rw [if_pos (cb_refl _), cmpRow_self]
theorem cmpC_zero {a b : Chg} : cmpC a b = 0 ↔ a.rel = b.rel ∧ a.row = b.row := by
  unfold cmpC
  constructor
  · intro h
    by_cases h0 : Lib.compareBytes a.rel b.rel = 0
    · rw [if_pos h0] at h
      exact ⟨cb_eq _ _ h0, cmpRow_eq _ _ h⟩
    · rw [if_neg h0] at h
      exact absurd h h0
  · rintro ⟨h1, h2⟩
    rw [h1, h2, if_pos (cb_refl _), cmpRow_self]
theorem alikeC_iff {a b : Chg} : alikeC a b = true ↔ cmpC a b = 0 := by
  rw [cmpC_zero]
  unfold alikeC sameV
  simp
theorem cmpC_trans {a b c : Chg} (h : cmpC a b < 0) (k : cmpC b c < 0) : cmpC a c < 0 := by
  unfold cmpC at *
  by_cases h0 : Lib.compareBytes a.rel b.rel = 0
  · rw [if_pos h0] at h
    rw [cb_eq _ _ h0]
    by_cases h1 : Lib.compareBytes b.rel c.rel = 0
    · rw [if_pos h1] at k ⊢
      exact cmpRow_trans _ _ _ h k
    · rw [if_neg h1] at k ⊢
      exact k
  · rw [if_neg h0] at h
    by_cases h1 : Lib.compareBytes b.rel c.rel = 0
    · rw [← cb_eq _ _ h1, if_neg h0]
      exact h
    · rw [if_neg h1] at k
      have h2 := cb_ltTrans h k
      rw [if_neg (by omega)]
      exact h2

/-- A change put into a list told from its end. -/
def insR : List Chg → Chg → List Chg
  | [], x => [x]
  | y :: r, x => if aheadC x y then y :: insR r x else x :: y :: r
def insC (l : List Chg) (x : Chg) : List Chg := (insR l.reverse x).reverse
def netGo (out : List Chg) : List Chg → List Chg
  | [] => out
  | x :: r => if r.any (alikeC x) then netGo out r else netGo (insC out x) r
/-- What the document's Net tells. -/
def netC (l : List Chg) : List Chg := netGo [] l
/-- The change z is in l, and none behind it is of its row. -/
def lastIn (z : Chg) : List Chg → Prop
  | [] => False
  | x :: r => (z = x ∧ r.any (alikeC x) = false) ∨ lastIn z r
def SR (l : List Chg) : Prop := l.Pairwise fun x y => cmpC x y < 0

theorem mem_insR : ∀ (r : List Chg) (x z : Chg), z ∈ insR r x ↔ z = x ∨ z ∈ r
  | [], x, z => by simp [insR]
  | y :: r, x, z => by
    unfold insR
    by_cases h : aheadC x y = true
    · rw [if_pos h, List.mem_cons, mem_insR r x z, List.mem_cons]
      exact ⟨fun h => by rcases h with h | h | h <;> simp [h], fun h => by rcases h with h | h | h <;> simp [h]⟩
    · rw [if_neg h, List.mem_cons]
theorem insR_sorted : ∀ (r : List Chg) (x : Chg), (r.Pairwise fun x y => cmpC y x < 0) → (∀ y ∈ r, cmpC x y ≠ 0) → (insR r x).Pairwise fun x y => cmpC y x < 0
  | [], x, _, _ => by simp [insR]
  | y :: r, x, h, hn => by
    rw [List.pairwise_cons] at h
    unfold insR
    by_cases h0 : aheadC x y = true
    · rw [if_pos h0, List.pairwise_cons]
      refine ⟨fun z hz => ?_, insR_sorted r x h.2 fun z hz => hn z (List.mem_cons_of_mem _ hz)⟩
      rcases (mem_insR r x z).1 hz with rfl | hz
      · exact of_decide_eq_true h0
      · exact h.1 z hz
    · rw [if_neg h0]
      have h1 : ¬ cmpC x y < 0 := fun h => h0 (decide_eq_true h)
      have h2 := hn y List.mem_cons_self
      have h3 := cmpC_anti x y
      have h4 : cmpC y x < 0 := by omega
      rw [List.pairwise_cons, List.pairwise_cons]
      refine ⟨fun z hz => ?_, h.1, h.2⟩
      rcases List.mem_cons.1 hz with rfl | hz
      · exact h4
      · exact cmpC_trans (h.1 z hz) h4
theorem mem_insC {l : List Chg} {x z : Chg} : z ∈ insC l x ↔ z = x ∨ z ∈ l := by
  unfold insC
  rw [List.mem_reverse, mem_insR, List.mem_reverse]
theorem insC_sorted {l : List Chg} {x : Chg} (h : SR l) (hn : ∀ y ∈ l, cmpC x y ≠ 0) : SR (insC l x) := by
  unfold SR insC at *
  rw [List.pairwise_reverse]
  refine insR_sorted _ _ ?_ fun y hy => hn y (List.mem_reverse.1 hy)
  rw [List.pairwise_reverse]
  exact h
theorem mem_netGo (z : Chg) : ∀ (l out : List Chg), z ∈ netGo out l ↔ z ∈ out ∨ lastIn z l
  | [], out => by simp [netGo, lastIn]
  | x :: r, out => by
    unfold netGo lastIn
    by_cases h : r.any (alikeC x) = true
    · rw [if_pos h, mem_netGo z r out]
      simp [h]
    · rw [if_neg h, mem_netGo z r, mem_insC]
      have h' : r.any (alikeC x) = false := by simpa using h
      rw [h']
      constructor
      · rintro ((h | h) | h)
        · exact .inr (.inl ⟨h, rfl⟩)
        · exact .inl h
        · exact .inr (.inr h)
      · rintro (h | ⟨h, _⟩ | h)
        · exact .inl (.inr h)
        · exact .inl (.inl h)
        · exact .inr h
theorem netGo_sorted : ∀ (l out : List Chg), SR out → (∀ y ∈ out, ∀ z ∈ l, cmpC y z ≠ 0) → SR (netGo out l)
  | [], out, h, _ => h
  | x :: r, out, h, hn => by
    unfold netGo
    by_cases h0 : r.any (alikeC x) = true
    · rw [if_pos h0]
      exact netGo_sorted r out h fun y hy z hz => hn y hy z (List.mem_cons_of_mem _ hz)
    · rw [if_neg h0]
      have h' : ∀ z ∈ r, cmpC x z ≠ 0 := fun z hz he => h0 (List.any_eq_true.2 ⟨z, hz, alikeC_iff.2 he⟩)
      refine netGo_sorted r _ (insC_sorted h fun y hy he => hn y hy x List.mem_cons_self (by rw [cmpC_anti, he]; rfl)) fun y hy z hz => ?_
      rcases mem_insC.1 hy with rfl | hy
      · exact h' z hz
      · exact hn y hy z (List.mem_cons_of_mem _ hz)
theorem mem_netC {z : Chg} {l : List Chg} : z ∈ netC l ↔ lastIn z l := by
  unfold netC
  rw [mem_netGo]
  simp
theorem netC_sorted (l : List Chg) : SR (netC l) := netGo_sorted l [] List.Pairwise.nil (by simp)
theorem SR.unique : ∀ {l m : List Chg}, SR l → SR m → (∀ z, z ∈ l ↔ z ∈ m) → l = m
  | [], [], _, _, _ => rfl
  | [], b :: m, _, _, h => by simpa using (h b).2 List.mem_cons_self
  | a :: l, [], _, _, h => by simpa using (h a).1 List.mem_cons_self
  | a :: l, b :: m, hl, hm, h => by
    unfold SR at hl hm
    rw [List.pairwise_cons] at hl hm
    have hab : a = b := by
      rcases List.mem_cons.1 ((h a).1 List.mem_cons_self) with e | e
      · exact e
      · rcases List.mem_cons.1 ((h b).2 List.mem_cons_self) with e' | e'
        · exact e'.symm
        · have h1 := hl.1 b e'
          have h2 := hm.1 a e
          have h3 := cmpC_anti a b
          omega
    subst hab
    have hself := cmpC_self a
    rw [SR.unique hl.2 hm.2 fun z => ⟨fun hz => ?_, fun hz => ?_⟩]
    · rcases List.mem_cons.1 ((h z).1 (List.mem_cons_of_mem _ hz)) with e | e
      · subst e
        have := hl.1 z hz
        omega
      · exact e
    · rcases List.mem_cons.1 ((h z).2 (List.mem_cons_of_mem _ hz)) with e | e
      · subst e
        have := hm.1 z hz
        omega
      · exact e
/-- A strictly sorted list whose members are the last changes of a batch is what Net tells of it. -/
theorem netC_eq {l m : List Chg} (h : SR m) (hm : ∀ z, z ∈ m ↔ lastIn z l) : m = netC l :=
  SR.unique h (netC_sorted l) fun z => (hm z).trans mem_netC.symm
end Go.Proofs.YtgjknekoehfdfaaGreatDoor
