/- value.Scan and value.Read, walked. -/
import Derived.Test.YthfibaajmbhdkaaDoorVal4
namespace Go.Proofs.YthfibaajmbhdkaaDoor
open Go.RowKit
set_option linter.unusedVariables false

/-- Does a number begin here? -/
def numAt (r : List UInt8) : Bool := decide (0 < r.length ∧ digB (bt r 0) = true ∨ 1 < r.length ∧ bt r 0 = 45 ∧ digB (bt r 1) = true)

def scanR (l : List UInt8) (at_ : Int) : Res :=
  if at_ < 0 ∨ (l.length : Int) < at_ then bad 10
  else if Lib.hasPrefix (l.drop at_.toNat) [34] then textR (l.drop (at_.toNat + 1)) (at_ + 1)
  else if numAt (l.drop at_.toNat) then numR l at_.toNat
  else bad 11

theorem numTok_head {l : List UInt8} {a : Nat} (h : a < l.length) : bt (numTok l a) 0 = bt l a ∧ numTok l a ≠ [] := by
  have hl := numTok_len h
  refine ⟨?_, fun e => by rw [e] at hl; simp at hl; omega⟩
  unfold numTok
  rw [List.drop_eq_getElem_cons h, Nat.add_comm 1, List.take_succ_cons]
  simp [bt, h]

theorem trim_num {l : List UInt8} {a : Nat} (hn : numAt (l.drop a) = true) (ha : a ≤ l.length) : a < l.length ∧ Lib.trimPrefix (numTok l a) [45] ≠ [] := by
  unfold numAt at hn
  simp only [decide_eq_true_eq, List.length_drop, bt_drop, Nat.add_zero] at hn
  have hlt : a < l.length := by omega
  obtain ⟨h1, h2⟩ := numTok_head hlt
  have hl := numTok_len hlt
  refine ⟨hlt, ?_⟩
  unfold Lib.trimPrefix Lib.hasPrefix
  cases ht : numTok l a with
  | nil => exact absurd ht h2
  | cons c r =>
    rw [ht] at h1 hl
    have hc : (c.toNat : Int) = bt l a := by rw [← h1]; simp [bt]
    by_cases h45 : c = 45
    · subst h45
      have e : bt l a = 45 := by rw [← hc]; rfl
      have hd0 : digB (bt l a) = false := by rw [e]; rfl
      rw [hd0] at hn
      simp only [Bool.false_eq_true, and_false, false_or] at hn
      have h3 : a + 1 < l.length := by omega
      have := digs_step h3 hn.2.2
      simp only [List.isPrefixOf, beq_self_eq_true, Bool.and_true, if_true, List.length_cons, List.length_nil, List.drop_succ_cons, List.drop_zero]
      intro e2
      rw [e2] at hl
      simp at hl
      omega
    · have : List.isPrefixOf [45] (c :: r) = false := by simp [List.isPrefixOf, Ne.symm h45]
      rw [this]
      simp

theorem res_store {w wr : World} (h : Below w.heap.size w wr) (a b c : Value) : Below w.heap.size w (((wr.setCell ⟨w.heap.size, 0, none⟩ a).setCell ⟨w.heap.size, 1, none⟩ b).setCell ⟨w.heap.size, 2, none⟩ c) := bstore3 h a b c

set_option maxHeartbeats 4000000 in
set_option maxRecDepth 100000 in
theorem scan_out (s : ByteArray) (a : Int) (w : World) (ha : a < 0 ∨ (s.size : Int) < a) :
    Calls Tryd.prog 29 #[.string s, .int .i64 a] w fun e w' => e = .returned (scanR s.data.toList a).v ∧ Below w.heap.size w w' := by
  have HE : Hid (scanR s.data.toList a = bad 10) := Lib.hid (by unfold scanR; exact if_pos ha)
  have hb := bstore3 (balloc (Below.refl w.heap.size w) (.cells #[.int .i64 0, .int .i64 0, .string ⟨#[]⟩] 35)) (.int .i64 0) (.int .i64 0) (.string ⟨#[]⟩)
  have HB := Lib.hid hb
  clear hb
  by_cases h1 : a < 0
  · clear ha
    go_enter Tryd.func29, Tryd.ntmps29
    go_wp2_with fail
    refine bodyPost_ret (v := (bad 10).v) (by simp [results, Tryd.results29, go_sem, *]; rfl) rfl ⟨by rw [HE.out], ?_⟩
    simpa [go_sem] using HB.out
  · have h2 : (s.size : Int) < a := by omega
    clear ha
    go_enter Tryd.func29, Tryd.ntmps29
    go_wp2_with fail
    refine bodyPost_ret (v := (bad 10).v) (by simp [results, Tryd.results29, go_sem, *]; rfl) rfl ⟨by rw [HE.out], ?_⟩
    simpa [go_sem] using HB.out

set_option maxHeartbeats 4000000 in
set_option maxRecDepth 100000 in
theorem scan_in (s : ByteArray) (a : Nat) (w : World) (ha : a ≤ s.size) (hs : s.size ≤ a + 140737488355328) (hs2 : s.size ≤ 281474976710656) (hg : Glob w) :
    Calls Tryd.prog 29 #[.string s, .int .i64 a] w fun e w' => e = .returned (scanR s.data.toList a).v ∧ Below w.heap.size w w' := by
  have hsl : s.data.toList.length = s.size := rfl
  have HE : Hid (scanR s.data.toList a = if Lib.hasPrefix (s.data.toList.drop a) [34] then textR (s.data.toList.drop (a + 1)) (a + 1) else if numAt (s.data.toList.drop a) then numR s.data.toList a else bad 11) := Lib.hid (by
    unfold scanR
    rw [if_neg (by rw [hsl]; omega)]
    simp only [Int.toNat_natCast])
  have hx := extract_drop s a
  have HX := Lib.hid hx
  have HS := Lib.hid hsl
  have HG := Lib.hid hg
  have hW : Below w.heap.size w (w.alloc (.cells #[.int .i64 0, .int .i64 0, .string ⟨#[]⟩] 35)) ∧ Blk (w.alloc (.cells #[.int .i64 0, .int .i64 0, .string ⟨#[]⟩] 35)) w.heap.size 35 #[.int .i64 0, .int .i64 0, .string ⟨#[]⟩] := ⟨balloc (Below.refl _ _) _, Blk.new _ _ _⟩
  have HW := Lib.hid hW
  clear hx hsl hg hW
  have hpf := fun W => Tryd.strings_HasPrefix (s.extract a s.size) ⟨#[34]⟩ W
  have HP := Lib.hid hpf
  clear hpf
  go_enter Tryd.func29, Tryd.ntmps29
  go_wp2_with fail
  refine (HP.out _).mono ?_
  rintro e w1 ⟨rfl, rfl⟩
  rw [HX.out]
  by_cases hp : Lib.hasPrefix (s.data.toList.drop a) [34] = true
  · have HE2 : Hid (scanR s.data.toList a = textR (s.data.toList.drop (a + 1)) (a + 1)) := Lib.hid (by rw [HE.out, if_pos hp])
    have hlt : a < s.size := by
      have h1 : s.data.toList.drop a ≠ [] := by
        intro e; rw [e] at hp; simp [Lib.hasPrefix] at hp
      have h2 := HS.out
      have h3 := List.length_pos_iff.2 h1
      rw [List.length_drop] at h3
      omega
    have hst := fun W => scanText_any s (a + 1) W (by omega) (by omega) hs2
    have hc : ((a + 1 : Nat) : Int) = (a : Int) + 1 := by omega
    rw [hc] at hst
    have HST := Lib.hid hst
    clear hst hc
    rw [hp]
    go_wp2_with fail
    refine (HST.out _).mono ?_
    rintro e w2 ⟨rfl, hb2⟩
    have hb3 := HW.out.1.trans (hb2.mono (by simp))
    have hblk := HW.out.2.below hb2 (by simp)
    have c0 := hblk.cell 0
    have c1 := hblk.cell 1
    have c2 := hblk.cell 2
    have z0 := hblk.frozen 0
    have z1 := hblk.frozen 1
    have z2 := hblk.frozen 2
    simp at c0 c1 c2
    clear hb2 hblk
    generalize textR (s.data.toList.drop (a + 1)) (↑a + 1) = r at *
    unfold Res.v
    go_wp2_with fail
    refine bodyPost_ret (v := r.v) (by simp [results, Tryd.results29, go_sem, *]; rfl) rfl ⟨by rw [HE2.out], bstore3 hb3 _ _ _⟩
  · have hp' : Lib.hasPrefix (s.data.toList.drop a) [34] = false := by simpa using hp
    rw [hp']
    have hdz : (s.extract a s.size).size = s.size - a := by rw [Lib.size_eq, HX.out, List.length_drop, HS.out]
    generalize hd : s.extract a s.size = d at *
    have hdl : d.data.toList = s.data.toList.drop a := HX.out
    have HDL := Lib.hid hdl
    have HDZ := Lib.hid hdz
    have hdn : (s.data.toList.drop a).length = d.size := by rw [← hdl]; rfl
    have HDN := Lib.hid hdn
    clear hd hdl hdz hdn
    by_cases hn : numAt (s.data.toList.drop a) = true
    · have HE2 : Hid (scanR s.data.toList a = numR s.data.toList a) := Lib.hid (by rw [HE.out, if_neg hp, if_pos hn])
      obtain ⟨hlt, hne⟩ := trim_num hn (by have := HS.out; omega)
      have hgw := HG.out.below HW.out.1
      have hsn := scanNumber_any s a _ (by have := HS.out; omega) hs2 hne hgw
      have HSN := Lib.hid hsn
      have hlt' : a < s.size := by have := HS.out; omega
      have hd0 : 0 < d.size := by have := HDZ.out; omega
      have hne1 : (!d.toList.isEmpty) = true := by
        rw [ByteArray.toList_eq, HDL.out]
        have := drop_ne hlt
        cases h : s.data.toList.drop a with
        | nil => exact absurd h this
        | cons _ _ => rfl
      have hb0 := bt_of d 0 hd0
      rw [HDL.out] at hb0
      unfold numAt at hn
      rw [HDN.out] at hn
      simp only [decide_eq_true_eq] at hn
      have HNN := Lib.hid hn
      have HXX : Hid (Lib.hasPrefix (s.data.toList.drop a) [34] = false) := Lib.hid hp'
      clear hsn hgw hp hp' hlt hne
      generalize hg0 : bt (s.data.toList.drop a) 0 = b0 at *
      clear hg0
      by_cases hdig : digB b0 = true
      · clear hn
        go_wp2_with (go_at_call 48; refine (isDigit_any _ _).mono ?_; rintro e w' ⟨rfl, rfl⟩)
        refine HSN.out.mono ?_
        rintro e w2 ⟨rfl, hb2⟩
        have hb3 := HW.out.1.trans (hb2.mono (by simp))
        have hblk := HW.out.2.below hb2 (by simp)
        have c0 := hblk.cell 0
        have c1 := hblk.cell 1
        have c2 := hblk.cell 2
        have z0 := hblk.frozen 0
        have z1 := hblk.frozen 1
        have z2 := hblk.frozen 2
        simp at c0 c1 c2
        clear hb2 hblk
        generalize numR s.data.toList a = r at *
        unfold Res.v
        go_wp2_with fail
        refine bodyPost_ret (v := r.v) (by simp [results, Tryd.results29, go_sem, *]; rfl) rfl ⟨by rw [HE2.out], bstore3 hb3 _ _ _⟩
      · have hdig' : digB b0 = false := by simpa using hdig
        obtain ⟨h2, h45, hd1⟩ : 1 < d.size ∧ b0 = 45 ∧ digB (bt (s.data.toList.drop a) 1) = true := by
          rcases hn with hn | hn
          · exact absurd hn.2 hdig
          · exact hn
        have q1 : (b0 == 45) = true := by simpa using h45
        have hb1 := bt_of d 1 h2
        rw [HDL.out] at hb1
        generalize hg1 : bt (s.data.toList.drop a) 1 = b1 at *
        have h2' : (1 : Int) < d.size := by omega
        clear hg1 hn hdig h45
        go_wp2_with (go_at_call 48; refine (isDigit_any _ _).mono ?_; rintro e w' ⟨rfl, rfl⟩)
        refine HSN.out.mono ?_
        rintro e w2 ⟨rfl, hb2⟩
        have hb3 := HW.out.1.trans (hb2.mono (by simp))
        have hblk := HW.out.2.below hb2 (by simp)
        have c0 := hblk.cell 0
        have c1 := hblk.cell 1
        have c2 := hblk.cell 2
        have z0 := hblk.frozen 0
        have z1 := hblk.frozen 1
        have z2 := hblk.frozen 2
        simp at c0 c1 c2
        clear hb2 hblk
        generalize numR s.data.toList a = r at *
        unfold Res.v
        go_wp2_with fail
        refine bodyPost_ret (v := r.v) (by simp [results, Tryd.results29, go_sem, *]; rfl) rfl ⟨by rw [HE2.out], bstore3 hb3 _ _ _⟩
    · have hn' : numAt (s.data.toList.drop a) = false := by simpa using hn
      have HE2 : Hid (scanR s.data.toList a = bad 11) := Lib.hid (by rw [HE.out, if_neg hp, if_neg hn])
      unfold numAt at hn
      rw [HDN.out] at hn
      simp only [decide_eq_true_eq] at hn
      have HB3 := Lib.hid (bstore3 HW.out.1 (.int .i64 0) (.int .i64 0) (.string ⟨#[]⟩))
      have HXX : Hid (Lib.hasPrefix (s.data.toList.drop a) [34] = false) := Lib.hid hp'
      clear hp hp' hn'
      by_cases hd0 : 0 < d.size
      · have hne1 : (!d.toList.isEmpty) = true := by
          rw [ByteArray.toList_eq, HDL.out]
          have := HDN.out
          cases h : s.data.toList.drop a with
          | nil => rw [h] at this; simp at this; omega
          | cons _ _ => rfl
        have hb0 := bt_of d 0 hd0
        rw [HDL.out] at hb0
        have hdig : digB (bt (s.data.toList.drop a) 0) = false := by
          cases h : digB (bt (s.data.toList.drop a) 0) with
          | false => rfl
          | true => exact absurd (.inl ⟨hd0, h⟩) hn
        by_cases h2 : 1 < d.size
        · have hb1 := bt_of d 1 h2
          rw [HDL.out] at hb1
          have h2' : (1 : Int) < d.size := by omega
          by_cases h45 : bt (s.data.toList.drop a) 0 = 45
          · have hd1 : digB (bt (s.data.toList.drop a) 1) = false := by
              cases h : digB (bt (s.data.toList.drop a) 1) with
              | false => rfl
              | true => exact absurd (.inr ⟨h2, h45, h⟩) hn
            have q1 : (bt (s.data.toList.drop a) 0 == 45) = true := by simpa using h45
            clear hn h45
            generalize bt (s.data.toList.drop a) 0 = b0 at *
            generalize bt (s.data.toList.drop a) 1 = b1 at *
            go_wp2_with (go_at_call 48; refine (isDigit_any _ _).mono ?_; rintro e w' ⟨rfl, rfl⟩)
            refine bodyPost_ret (v := (bad 11).v) (by simp [results, Tryd.results29, go_sem, *]; rfl) rfl ⟨by rw [HE2.out], ?_⟩
            simpa [go_sem] using HB3.out
          · have q1 : (bt (s.data.toList.drop a) 0 == 45) = false := by simpa using h45
            clear hn h45 hb1
            generalize bt (s.data.toList.drop a) 0 = b0 at *
            go_wp2_with (go_at_call 48; refine (isDigit_any _ _).mono ?_; rintro e w' ⟨rfl, rfl⟩)
            refine bodyPost_ret (v := (bad 11).v) (by simp [results, Tryd.results29, go_sem, *]; rfl) rfl ⟨by rw [HE2.out], ?_⟩
            simpa [go_sem] using HB3.out
        · have h2' : (d.size : Int) ≤ 1 := by omega
          clear hn h2
          generalize bt (s.data.toList.drop a) 0 = b0 at *
          go_wp2_with (go_at_call 48; refine (isDigit_any _ _).mono ?_; rintro e w' ⟨rfl, rfl⟩)
          refine bodyPost_ret (v := (bad 11).v) (by simp [results, Tryd.results29, go_sem, *]; rfl) rfl ⟨by rw [HE2.out], ?_⟩
          simpa [go_sem] using HB3.out
      · have hne1 : (!d.toList.isEmpty) = false := by
          rw [ByteArray.toList_eq, HDL.out]
          have := HDN.out
          cases h : s.data.toList.drop a with
          | nil => rfl
          | cons _ _ => rw [h] at this; simp at this; omega
        have h2' : (d.size : Int) ≤ 1 := by omega
        clear hn hd0
        go_wp2_with (go_at_call 48; refine (isDigit_any _ _).mono ?_; rintro e w' ⟨rfl, rfl⟩)
        refine bodyPost_ret (v := (bad 11).v) (by simp [results, Tryd.results29, go_sem, *]; rfl) rfl ⟨by rw [HE2.out], ?_⟩
        simpa [go_sem] using HB3.out

theorem scan_any (s : ByteArray) (a : Int) (w : World) (hs : s.size ≤ 140737488355328) (hg : Glob w) :
    Calls Tryd.prog 29 #[.string s, .int .i64 a] w fun e w' => e = .returned (scanR s.data.toList a).v ∧ Below w.heap.size w w' := by
  by_cases h : a < 0 ∨ (s.size : Int) < a
  · exact scan_out s a w h
  · obtain ⟨n, rfl⟩ := Int.eq_ofNat_of_zero_le (show 0 ≤ a by omega)
    exact scan_in s n w (by omega) (by omega) (by omega) hg

/-- The literal that is the whole of a text. -/
def readR (l : List UInt8) : Res :=
  if (scanR l 0).e = 0 ∧ (scanR l 0).stop ≠ l.length then ⟨0, 0, [], 0, 11⟩ else ⟨(scanR l 0).k, (scanR l 0).n, (scanR l 0).t, 0, (scanR l 0).e⟩

def Res.v2 (r : Res) : Value := .tuple #[.agg #[.int .i64 r.k, .int .i64 r.n, .string ⟨r.t.toArray⟩], .int .i64 r.e]
end Go.Proofs.YthfibaajmbhdkaaDoor
