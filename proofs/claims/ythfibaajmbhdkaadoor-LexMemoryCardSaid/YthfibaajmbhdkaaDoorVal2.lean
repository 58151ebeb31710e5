/- value.scanText: what it computes; the plain part. -/
import Derived.Test.YthfibaajmbhdkaaDoorVal1
import Derived.Deep.AppendLies
import Derived.Lib.UnsafeStr
import Derived.Lib.Strings
namespace Go.Proofs.YthfibaajmbhdkaaDoor
open Go.RowKit
set_option linter.unusedVariables false

theorem run_conv_own {P : Program} {w : World} {B e src dst : Nat} {v : Value} {n : Nat} {l : List UInt8} (hs : P.underlying src = some (.slice e)) (he : P.underlying e = some (.int .u8)) (hd : P.underlying dst = some .string)
    (h : w.ownsRow B e 1 v n (Lib.byteCells l)) : (convert src dst v).run P w = .ok (.string ⟨l.toArray⟩) w := by
  rcases h.2 with ⟨rfl, h0⟩ | ⟨g, cap, cur, rfl, _⟩
  · have h1 := h.1
    have : l = [] := by
      have := Lib.byteCells_length l
      apply List.eq_nil_of_length_eq_zero
      omega
    subst this
    rw [run_convert_bytes_string w src dst e none 0 0 hs he hd]
    rfl
  · rw [run_convert_bytes_string w src dst e _ _ _ hs he hd]
    have hl : (Lib.byteCells l).length = n := by simpa using h.1
    have hc := run_loadCells_list (P := P) w ⟨g, 0, none⟩ (Lib.byteCells l) (h.cells rfl)
    rw [hl] at hc
    have e : Lib.byteCells l = (l.map fun b => (b.toNat : Int)).map (Value.int .u8) := by simp [Lib.byteCells]
    rw [e] at hc
    rw [run_bytesToString w ⟨g, 0, none⟩ n cap _ hc]
    congr 2
    have : ∀ (l : List UInt8) (a : ByteArray), (l.map fun b => (b.toNat : Int)).foldl (fun r (n : Int) => r.push (UInt8.ofNat n.toNat)) a = ⟨(a.data.toList ++ l).toArray⟩ := by
      intro l
      induction l with
      | nil => intro a; simp
      | cons x l ih =>
        intro a
        simp only [List.map_cons, List.foldl_cons]
        rw [ih]
        simp [ByteArray.push]
    rw [this]
    simp

theorem scanB_bd (l : List UInt8) (hl : l ≠ []) : (0 ≤ (scanB l).1 ∧ (scanB l).1 ≤ 255) ∧ 0 ≤ (scanB l).2 ∧ (scanB l).2 ≤ 4 ∧ (scanB l).2.toNat ≤ l.length := by
  have h0 := bt_bd l 0
  have h1 := bt_bd l 1
  have h2 := hexI_bd (bt l 2)
  have h3 := hexI_bd (bt l 3)
  have hlen : 1 ≤ l.length := List.length_pos_iff.2 hl
  unfold scanB
  repeat' split
  all_goals (simp only []; omega)

/-- The bytes that a text literal writes, from behind its opening quote, and how many bytes stand ahead of its closing one. -/
def textScan (l : List UInt8) : Option (List UInt8 × Nat) :=
  if h : l = [] then none
  else if bt l 0 = 34 then some ([], 0)
  else if hn : (scanB l).2 = 0 then none
  else match textScan (l.drop (scanB l).2.toNat) with
    | none => none
    | some (t, n) => some (UInt8.ofNat (scanB l).1.toNat :: t, n + (scanB l).2.toNat)
termination_by l.length
decreasing_by
  have hb := scanB_bd l h
  have hlen : 1 ≤ l.length := List.length_pos_iff.2 h
  rw [List.length_drop]
  omega

theorem textScan_nil : textScan [] = none := by rw [textScan]; simp
theorem textScan_quote {l : List UInt8} (h : l ≠ []) (hq : bt l 0 = 34) : textScan l = some ([], 0) := by rw [textScan, dif_neg h, if_pos hq]
theorem textScan_bad {l : List UInt8} (h : l ≠ []) (hq : bt l 0 ≠ 34) (hn : (scanB l).2 = 0) : textScan l = none := by rw [textScan, dif_neg h, if_neg hq, dif_pos hn]
theorem textScan_step {l : List UInt8} (h : l ≠ []) (hq : bt l 0 ≠ 34) (hn : (scanB l).2 ≠ 0) :
    textScan l = (textScan (l.drop (scanB l).2.toNat)).map fun p => (UInt8.ofNat (scanB l).1.toNat :: p.1, p.2 + (scanB l).2.toNat) := by
  conv => lhs; rw [textScan, dif_neg h, if_neg hq, dif_neg hn]
  cases textScan (l.drop (scanB l).2.toNat) <;> rfl

/-- What Scan tells: kind, number, text, end, error. -/
structure Res where
  k : Int
  n : Int
  t : List UInt8
  stop : Int
  e : Int

def Res.v (r : Res) : Value := .tuple #[.agg #[.int .i64 r.k, .int .i64 r.n, .string ⟨r.t.toArray⟩], .int .i64 r.stop, .int .i64 r.e]
def bad (e : Int) : Res := ⟨0, 0, [], 0, e⟩

def textR (l : List UInt8) (at_ : Int) : Res :=
  match textScan l with
  | none => bad 11
  | some (t, n) => if 64 < t.length then bad 13 else ⟨2, 0, t, at_ + n + 1, 0⟩

/-- After some rounds. -/
def textIs (l : List UInt8) (i k : Nat) (acc : List UInt8) : Prop :=
  textScan (l.drop i) = (textScan (l.drop k)).map fun p => (acc ++ p.1, p.2 + (k - i))

theorem textIs_start (l : List UInt8) (i : Nat) : textIs l i i [] := by
  unfold textIs
  cases textScan (l.drop i) with
  | none => rfl
  | some p => simp

theorem drop_ne {l : List UInt8} {k : Nat} (h : k < l.length) : l.drop k ≠ [] := by simp; omega
theorem bt_drop (l : List UInt8) (k j : Nat) : bt (l.drop k) j = bt l (k + j) := by
  simp [bt, List.getD]

theorem textIs_step {l : List UInt8} {i k : Nat} {acc : List UInt8} (h : textIs l i k acc) (hik : i ≤ k) (hk : k < l.length) (hq : bt l k ≠ 34) (hn : (scanB (l.drop k)).2 ≠ 0) :
    textIs l i (k + (scanB (l.drop k)).2.toNat) (acc ++ [UInt8.ofNat (scanB (l.drop k)).1.toNat]) := by
  unfold textIs at *
  rw [h, textScan_step (drop_ne hk) (by rw [bt_drop]; exact hq) hn, List.drop_drop]
  cases textScan (l.drop (k + (scanB (l.drop k)).2.toNat)) with
  | none => rfl
  | some p =>
    simp only [Option.map_some, List.append_assoc, List.singleton_append, Option.some.injEq, Prod.mk.injEq, true_and]
    omega

theorem textR_bad {l : List UInt8} {i k : Nat} {acc : List UInt8} (h : textIs l i k acc) (hk : k < l.length) (hq : bt l k ≠ 34) (hn : (scanB (l.drop k)).2 = 0) : textR (l.drop i) i = bad 11 := by
  unfold textR
  rw [h, textScan_bad (drop_ne hk) (by rw [bt_drop]; exact hq) hn]
  rfl
theorem textR_end {l : List UInt8} {i k : Nat} {acc : List UInt8} (h : textIs l i k acc) (hk : k = l.length) : textR (l.drop i) i = bad 11 := by
  subst hk
  unfold textR
  rw [h, List.drop_of_length_le (Nat.le_refl _), textScan_nil]
  rfl
theorem textR_long {l : List UInt8} {i k : Nat} {acc : List UInt8} (h : textIs l i k acc) (hk : k < l.length) (hq : bt l k = 34) (hl : 64 < acc.length) : textR (l.drop i) i = bad 13 := by
  unfold textR
  rw [h, textScan_quote (drop_ne hk) (by rw [bt_drop]; exact hq)]
  simp [hl]
theorem textR_good {l : List UInt8} {i k : Nat} {acc : List UInt8} (h : textIs l i k acc) (hik : i ≤ k) (hk : k < l.length) (hq : bt l k = 34) (hl : acc.length ≤ 64) : textR (l.drop i) i = ⟨2, 0, acc, k + 1, 0⟩ := by
  unfold textR
  rw [h, textScan_quote (drop_ne hk) (by rw [bt_drop]; exact hq)]
  simp only [Option.map_some, List.append_nil, Nat.zero_add]
  rw [if_neg (by omega)]
  congr 1
  omega

theorem cells_snoc (acc : List UInt8) (c : Int) (h0 : 0 ≤ c) (h1 : c ≤ 255) : Lib.byteCells (acc ++ [UInt8.ofNat c.toNat]) = Lib.byteCells acc ++ [.int .u8 c] := by
  have : ((UInt8.ofNat c.toNat).toNat : Int) = c := by
    rw [UInt8.toNat_ofNat']
    omega
  unfold Lib.byteCells
  rw [List.map_append, List.map_cons, List.map_nil, this]
end Go.Proofs.YthfibaajmbhdkaaDoor
