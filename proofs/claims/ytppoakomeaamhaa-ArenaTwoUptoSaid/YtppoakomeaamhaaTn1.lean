/- osierref01.Digits, Number, walked (the arena seat). -/
import Derived.Test.YtppoakomeaamhaaArG
import Derived.Deep.MidRow
import Derived.Lib.ItoaLen
import Derived.Lib.SliceRun
namespace Go.Proofs.Ytppoakomeaamhaa
open Go.RowKit
set_option linter.unusedVariables false

theorem byte_of (c : Int) (h0 : 0 ≤ c) (h1 : c ≤ 255) : Value.int .u8 c = Value.int .u8 ((UInt8.ofNat c.toNat).toNat : Int) := by
  congr 1
  rw [UInt8.toNat_ofNat']
  omega

theorem bytes_conv {P : Program} {w : World} {g e src dst n cap : Nat} {l : List UInt8} (hs : P.underlying src = some (.slice e)) (he : P.underlying e = some (.int .u8)) (hd : P.underlying dst = some .string)
    (hl : (Lib.byteCells l).length = n) (h : ∀ j v, (Lib.byteCells l)[j]? = some v → w.cell? ((⟨g, 0, none⟩ : Addr).add j) = some v) : (convert src dst (.slice (some ⟨g, 0, none⟩) n cap)).run P w = .ok (.string ⟨l.toArray⟩) w := by
  rw [run_convert_bytes_string w src dst e _ _ _ hs he hd]
  have hc := run_loadCells_list (P := P) w ⟨g, 0, none⟩ (Lib.byteCells l) h
  rw [hl] at hc
  have e : Lib.byteCells l = (l.map fun b => (b.toNat : Int)).map (Value.int .u8) := by simp [Lib.byteCells]
  rw [e] at hc
  rw [run_bytesToString w ⟨g, 0, none⟩ n cap _ hc]
  congr 2
  have : ∀ (l : List UInt8) (a : ByteArray), (l.map fun b => (b.toNat : Int)).foldl (fun r (n : Int) => r.push (UInt8.ofNat n.toNat)) a = ⟨(a.data.toList ++ l).toArray⟩ := by
    intro l
    induction l with
    | nil => intro a; simp
    | cons x l ih =>
      intro a
      simp only [List.map_cons, List.foldl_cons]
      rw [ih]
      simp [ByteArray.push]
  rw [this]
  simp

theorem conv1 {w : World} {g cap : Nat} {c : Int} (h0 : 0 ≤ c) (h1 : c ≤ 255) (h : w.cell? ⟨g, 0, none⟩ = some (.int .u8 c)) :
    (convert 89 9 (.slice (some ⟨g, 0, none⟩) 1 cap)).run Try.prog w = .ok (.string ⟨#[UInt8.ofNat c.toNat]⟩) w := by
  refine bytes_conv (l := [UInt8.ofNat c.toNat]) Try.underlying89 Try.underlying5 Try.underlying9 rfl ?_
  intro j v hj
  match j with
  | 0 =>
    simp only [Lib.byteCells, List.map_cons, List.map_nil, List.getElem?_cons_zero, Option.some.injEq] at hj
    rw [← hj, ← byte_of c h0 h1]
    exact h
  | j + 1 => simp [Lib.byteCells] at hj


theorem dec_step {n : Nat} (h : 10 ≤ n) : Lib.decDigits n = Lib.decDigits (n / 10) ++ [UInt8.ofNat (48 + n % 10)] := by
  conv => lhs; rw [Lib.decDigits, dif_neg (by omega)]
theorem dec_last {n : Nat} (h : n < 10) : Lib.decDigits n = [UInt8.ofNat (48 + n % 10)] := by
  rw [Lib.decDigits, dif_pos h, Nat.mod_eq_of_lt h]

set_option maxHeartbeats 4000000 in
set_option maxRecDepth 100000 in
theorem digits_any (u : Nat) (w : World) (hu : u ≤ 18446744073709551615) :
    Calls Try.prog 43 #[.int .u64 u] w fun e w' => e = .returned (.string ⟨(Lib.decDigits u).toArray⟩) ∧ Below w.heap.size w w' := by
  go_enter Try.func43, Try.ntmps43
  go_wp2_with fail
  go_loopw [0, 3] (fun m s wr => ∃ (n : Nat) (l : List UInt8), m = .int .u64 n ∧ s = .string ⟨l.toArray⟩ ∧ n ≤ 18446744073709551615 ∧ Below w.heap.size w wr ∧ Lib.decDigits u = Lib.decDigits n ++ l) (fun m _ _ => (intOf m).toNat)
  case atStart => exact ⟨u, [], rfl, rfl, hu, Below.refl _ _, by simp⟩
  case round =>
    obtain ⟨n, l, rfl, rfl, hn, hbel, hd⟩ := hrel
    have hc : (wr.alloc (.cells #[.int .u8 (48 + (n : Int) % 10)] 5)).cell? ⟨wr.heap.size, 0, none⟩ = some (.int .u8 (48 + (n : Int) % 10)) := by simp
    have hcv := conv1 (cap := 1) (c := 48 + (n : Int) % 10) (by omega) (by omega) hc
    have hsz := hbel.size
    have hll : 1 + l.length ≤ 9223372036854775807 := by
      have h1 := congrArg List.length hd
      rw [List.length_append, Lib.decDigits_length] at h1
      have h2 := Lib.nDigits_le20 u (by omega)
      omega
    have hcc : (ByteArray.mk #[48 + UInt8.ofNat (n % 10)] ++ ByteArray.mk l.toArray) = ⟨(UInt8.ofNat (48 + n % 10) :: l).toArray⟩ := by
      apply ByteArray.ext
      simp
    have HCC := Lib.hid hcc
    clear hcc
    have HB := Lib.hid (show Below w.heap.size w (wr.alloc (.cells #[.int .u8 (48 + (n : Int) % 10)] 5)) from balloc hbel _)
    have HD := Lib.hid hd
    clear hbel hd hc
    by_cases h10 : n < 10
    · have hz : ((n : Int) / 10 == 0) = true := by simp; omega
      have HL := Lib.hid (dec_last h10)
      go_wp2_with fail
      go_ret
      have hE := HD.out
      rw [HL.out] at hE
      exact ⟨by rw [HCC.out, hE]; rfl, HB.out⟩
    · have hz : ((n : Int) / 10 == 0) = false := beq_eq_false_iff_ne.2 (by omega)
      have HL := Lib.hid (dec_step (show 10 ≤ n by omega))
      go_wp2_with fail
      go_round
      case rel => exact ⟨n / 10, UInt8.ofNat (48 + n % 10) :: l, by go_num, by rw [HCC.out], by omega, HB.out, by rw [HD.out, HL.out]; simp⟩
      case measure => simp [intOf]; omega

set_option maxHeartbeats 4000000 in
set_option maxRecDepth 100000 in
theorem number_any (n : Int) (w : World) (h0 : -9223372036854775808 ≤ n) (h1 : n ≤ 9223372036854775807) :
    Calls Try.prog 38 #[.int .i64 n] w fun e w' => e = .returned (.string ⟨(Lib.itoa n).toArray⟩) ∧ Below w.heap.size w w' := by
  by_cases hn : n < 0
  · obtain ⟨u, rfl⟩ : ∃ u : Nat, n = -(u : Int) := ⟨n.natAbs, by omega⟩
    have HE : Hid (Lib.itoa (-(u : Int)) = 45 :: Lib.decDigits u) := Lib.hid (Lib.itoa_neg u (by omega))
    have hd := digits_any u w (by omega)
    have HD := Lib.hid hd
    clear hd
    have hl := Lib.decDigits_length u
    have hl2 := Lib.nDigits_le20 u (by omega)
    have hll : 1 + (Lib.decDigits u).length ≤ 9223372036854775807 := by omega
    have h2 : IntKind.u64.wrap (-IntKind.u64.wrap (-(u : Int))) = u := by
      unfold IntKind.wrap
      simp [IntKind.signed, IntKind.bits]
      omega
    go_enter Try.func38, Try.ntmps38
    go_wp2_with fail
    refine HD.out.mono ?_
    rintro e w1 ⟨rfl, hb1⟩
    have HB1 := Lib.hid hb1
    clear hb1
    go_wp2_with fail
    go_ret
    refine ⟨?_, HB1.out⟩
    rw [HE.out]
    have : (ByteArray.mk #[45] ++ ByteArray.mk (Lib.decDigits u).toArray) = ⟨(45 :: Lib.decDigits u).toArray⟩ := by
      apply ByteArray.ext; simp
    rw [← this]; rfl
  · obtain ⟨u, rfl⟩ : ∃ u : Nat, n = u := ⟨n.toNat, by omega⟩
    have HE : Hid (Lib.itoa (u : Int) = Lib.decDigits u) := Lib.hid (Lib.itoa_nonneg u)
    have hd := digits_any u w (by omega)
    have HD := Lib.hid hd
    clear hd
    go_enter Try.func38, Try.ntmps38
    go_wp2_with fail
    refine HD.out.mono ?_
    rintro e w1 ⟨rfl, hb1⟩
    have HB1 := Lib.hid hb1
    clear hb1
    go_wp2_with fail
    go_ret
    exact ⟨by rw [HE.out]; rfl, HB1.out⟩
end Go.Proofs.Ytppoakomeaamhaa
