/- Values and terms compared. What query.Match tells, plainly. query.Match, walked. -/
import Derived.Test.YtgjknekoehfdfaaGreatDoorGb
import Derived.Laws.StructEq
import Derived.OwnWalk
import Derived.Deep.QuietTactic
import Derived.BigQuiet
namespace Go.Proofs.YtgjknekoehfdfaaGreatDoor
open Go.RowKit
set_option linter.unusedVariables false

/-- A value: kind, number, text. -/
structure Vl where
  k : Int
  n : Int
  t : List UInt8
deriving DecidableEq
def Vl.cells (v : Vl) : List Value := [.int .i64 v.k, .int .i64 v.n, .string ⟨v.t.toArray⟩]
def Trm.vl (t : Trm) : Vl := ⟨t.k, t.n, t.t⟩

def f3 (f : Field) : String × TypeId × Nat := (f.name, f.type, f.offset)
/-- The fields' comparison, by name, type and place alone. -/
def eqF (d : Nat) (xs ys : Array Value) : List (String × TypeId × Nat) → Sem Bool
  | [] => pure true
  | f :: fs =>
    if f.1 ≠ "_" then do
      let a ← part f.2.1 xs f.2.2
      let b ← part f.2.1 ys f.2.2
      let r ← Op.equalIn d f.2.1 a b
      if (!r) = true then pure false else eqF d xs ys fs
    else eqF d xs ys fs
theorem eqF_of (d : Nat) (xs ys : Array Value) : ∀ fs : List Field, Op.eqFields d xs ys fs = eqF d xs ys (fs.map f3)
  | [] => rfl
  | f :: fs => by
    have := eqF_of d xs ys fs
    simp only [Op.eqFields, List.map_cons, eqF, f3, this]

theorem ba_beq (a b : List UInt8) : ((⟨a.toArray⟩ : ByteArray).toList == (⟨b.toArray⟩ : ByteArray).toList) = decide (a = b) := by
  rw [ByteArray.toList_eq, ByteArray.toList_eq]
  simp only
  by_cases h : a = b <;> simp [h]

set_option maxHeartbeats 1000000 in
theorem equal_value (d : Nat) (a b : Vl) (w : World) : (Op.equalIn (d + 2) 74 (.agg a.cells.toArray) (.agg b.cells.toArray)).run Tryz.prog w = .ok (decide (a = b)) w := by
  have hf : (Tryz.prog.fieldsOf 74).toList.map f3 = [("Kind", 67, 0), ("Int", 2, 1), ("Text", 9, 2)] := by kernel_rfl
  have p1 : ∀ w, (isAgg 67).run Tryz.prog w = .ok false w := fun _ => by kernel_rfl
  have p2 : ∀ w, (isAgg 2).run Tryz.prog w = .ok false w := fun _ => by kernel_rfl
  have p3 : ∀ w, (isAgg 9).run Tryz.prog w = .ok false w := fun _ => by kernel_rfl
  rw [run_equalIn_agg w (d + 1) _ _ _ (by kernel_rfl) (by kernel_rfl), eqF_of, hf]
  have e1 := fun (x y : Int) (w : World) => run_equalIn_int (P := Tryz.prog) w d 67 .i64 .i64 x y Tryz.underlying67
  have e2 := fun (x y : Int) (w : World) => run_equalIn_int (P := Tryz.prog) w d 2 .i64 .i64 x y Tryz.underlying2
  have e3 := fun (x y : ByteArray) (w : World) => run_equalIn_string (P := Tryz.prog) w d 9 x y Tryz.underlying9
  obtain ⟨k, n, t⟩ := a
  obtain ⟨k', n', t'⟩ := b
  simp only [Vl.cells, eqF, part, Sem.run_bind, Sem.run_ite, p1, p2, p3, Result.andThen_ok]
  by_cases h1 : k = k' <;> by_cases h2 : n = n' <;> by_cases h3 : t = t' <;> simp [h1, h2, h3, e1, e2, e3, Vl.mk.injEq]
theorem eql_value (a b : Vl) (w : World) : (binOp .eql 74 (.agg a.cells.toArray) (.agg b.cells.toArray)).run Tryz.prog w = .ok (.bool (decide (a = b))) w := by
  rw [run_eql_struct, equal_value 9998]
  rfl
theorem neq_value (a b : Vl) (w : World) : (binOp .neq 74 (.agg a.cells.toArray) (.agg b.cells.toArray)).run Tryz.prog w = .ok (.bool (!decide (a = b))) w := by
  rw [run_neq_struct, equal_value 9998]
  rfl
end Go.Proofs.YtgjknekoehfdfaaGreatDoor
namespace Go.Proofs.YtgjknekoehfdfaaGreatDoor
open Go.RowKit
set_option linter.unusedVariables false

/-- The rest of the terms and values, given the values that the variables have so far. -/
def matchG (vars : List (List UInt8)) : List (Trm × Vl) → List Vl → Option (List Vl)
  | [], out => some out
  | (t, v) :: r, out =>
    if t.x = [] then (if v = t.vl then matchG vars r out else none)
    else if idxI vars t.x = out.length then matchG vars r (out ++ [v])
    else if out[(idxI vars t.x).toNat]? = some v then matchG vars r out else none
def matchR (ts : List Trm) (vs : List Vl) : Option (List Vl) := if vs.length = ts.length then matchG (atomVars ts) (ts.zip vs) [] else none

theorem addV_pre (o : List (List UInt8)) (t : Trm) : ∃ r, addV o t = o ++ r := by
  unfold addV addN
  split
  · exact ⟨[], by simp⟩
  · split
    · exact ⟨[], by simp⟩
    · exact ⟨[t.x], rfl⟩
theorem foldl_pre : ∀ (ts : List Trm) (o : List (List UInt8)), ∃ r, ts.foldl addV o = o ++ r
  | [], o => ⟨[], by simp⟩
  | t :: ts, o => by
    obtain ⟨r1, h1⟩ := addV_pre o t
    obtain ⟨r2, h2⟩ := foldl_pre ts (addV o t)
    refine ⟨r1 ++ r2, ?_⟩
    rw [List.foldl_cons, h2, h1, List.append_assoc]
theorem av_pre (ts : List Trm) (k : Nat) : ∃ r, atomVars ts = atomVars (ts.take k) ++ r := by
  obtain ⟨r, h⟩ := foldl_pre (ts.drop k) ((ts.take k).foldl addV [])
  refine ⟨r, ?_⟩
  unfold atomVars
  rw [← h, ← List.foldl_append, List.take_append_drop]

/-- The variables so far and where the next one stands. -/
theorem av_step {ts : List Trm} {k n : Nat} {t : Trm} (h : ts[k]? = some t) (hx : t.x ≠ []) (hk : atomVars (ts.take k) = (atomVars ts).take n) (hn : n ≤ (atomVars ts).length) :
    ∃ p : Nat, idxI (atomVars ts) t.x = p ∧ p ≤ n ∧ (p = n → n + 1 ≤ (atomVars ts).length ∧ atomVars (ts.take (k + 1)) = (atomVars ts).take (n + 1)) ∧ (p ≠ n → atomVars (ts.take (k + 1)) = (atomVars ts).take n) := by
  have hs : atomVars (ts.take (k + 1)) = addV (atomVars (ts.take k)) t := foldl_take_succ addV [] ts k t h
  obtain ⟨r, hr⟩ := av_pre ts (k + 1)
  rw [hs] at hr
  by_cases hm : t.x ∈ (atomVars ts).take n
  · have ha : addV (atomVars (ts.take k)) t = atomVars (ts.take k) := by
      unfold addV addN
      rw [if_neg hx, hk, if_pos hm]
    obtain ⟨p, hp⟩ := List.getElem?_of_mem hm
    have hpn : p < n := by
      have := (List.getElem?_eq_some_iff.1 hp).1
      rw [List.length_take] at this
      omega
    have hi : idxI (atomVars ts) t.x = ((atomVars ts).idxOf t.x : Int) := by
      unfold idxI
      rw [if_pos (List.mem_of_mem_take hm)]
    have hlt : (atomVars ts).idxOf t.x < n := by
      have e : (atomVars ts).idxOf t.x = ((atomVars ts).take n).idxOf t.x := by
        conv => lhs; rw [← List.take_append_drop n (atomVars ts)]
        rw [List.idxOf_append, if_pos hm]
      rw [e]
      have := List.idxOf_lt_length_of_mem hm
      rw [List.length_take] at this
      omega
    exact ⟨_, hi, by omega, fun e => by omega, fun _ => by rw [hs, ha, hk]⟩
  · have ha : addV (atomVars (ts.take k)) t = atomVars (ts.take k) ++ [t.x] := by
      unfold addV addN
      rw [if_neg hx, hk, if_neg hm]
    rw [ha, hk] at hr
    have hlen : ((atomVars ts).take n).length = n := by rw [List.length_take]; omega
    have hget : (atomVars ts)[n]? = some t.x := by
      rw [hr, List.append_assoc, List.getElem?_append_right (by rw [hlen]; exact Nat.le_refl _), hlen]
      simp
    have hl := (List.getElem?_eq_some_iff.1 hget).1
    refine ⟨n, idxI_hit hget hm, Nat.le_refl _, fun _ => ⟨hl, ?_⟩, fun e => absurd rfl e⟩
    rw [hs, ha, hk, List.take_add_one, hget]
    rfl
end Go.Proofs.YtgjknekoehfdfaaGreatDoor
namespace Go.Proofs.YtgjknekoehfdfaaGreatDoor
open Go.RowKit
set_option linter.unusedVariables false

/-- What Match tells. -/
def MatchPost (w : World) : Option (List Vl) → Ending → World → Prop
  | none, e, w' => e = .returned (.tuple #[.slice none 0 0, .bool false]) ∧ Below w.heap.size w w'
  | some l, e, w' => ∃ v, e = .returned (.tuple #[v, .bool true]) ∧ w'.ownsRow w.heap.size 74 3 v l.length (l.flatMap Vl.cells) ∧ Below w.heap.size w w'
theorem Tryz.infoVal : (Tryz.prog.info? 74).map (fun i => (i.zero, i.size, i.bytes)) = some (some (.agg #[.int .i64 0, .int .i64 0, .string ⟨#[]⟩]), 3, 32) := by kernel_rfl
theorem matchPost_none {w w' : World} (h : Below w.heap.size w w') : MatchPost w none (.returned (.tuple #[.slice none 0 0, .bool false])) w' := ⟨rfl, h⟩

theorem map_flatV (l : List Vl) : (l.map Vl.cells).flatten = l.flatMap Vl.cells := by
  induction l with
  | nil => rfl
  | cons a l ih => simp [ih]
def vlB (k n : Int) (t : List UInt8) (k' n' : Int) (t' : List UInt8) : Bool := decide ((⟨k, n, t⟩ : Vl) = ⟨k', n', t'⟩)

end Go.Proofs.YtgjknekoehfdfaaGreatDoor
