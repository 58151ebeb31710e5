/- The document's arena (osierref03): its memory and what its small functions compute, plain. -/
import Derived.Test.YtppoakomeaamhaaOn2
namespace Go.Proofs.Ytppoakomeaamhaa
open Go.RowKit

structure One where
  slot : Int
  gen : Int
  thing : Int
  alive : Bool
  back : Int

def oc (o : One) : List Value := [.int .i64 o.slot, .int .i64 o.gen, .int .i64 o.thing, .bool o.alive, .int .i64 o.back]
theorem oc_len (l : List One) : (l.flatMap oc).length = l.length * 5 := by
  induction l with
  | nil => rfl
  | cons a l ih => simp [List.flatMap_cons, oc, ih]; omega
theorem oc_at (l : List One) (i : Nat) (o : One) (h : l[i]? = some o) :
    (l.flatMap oc)[i * 5]? = some (.int .i64 o.slot) ∧ (l.flatMap oc)[i * 5 + 1]? = some (.int .i64 o.gen) ∧ (l.flatMap oc)[i * 5 + 2]? = some (.int .i64 o.thing) ∧ (l.flatMap oc)[i * 5 + 3]? = some (.bool o.alive) ∧ (l.flatMap oc)[i * 5 + 4]? = some (.int .i64 o.back) := by
  induction l generalizing i with
  | nil => simp at h
  | cons a l ih =>
    cases i with
    | zero => simp at h; subst h; simp [List.flatMap_cons, oc]
    | succ i =>
      have := ih i (by simpa using h)
      simp only [List.flatMap_cons, oc]
      have e1 : (i + 1) * 5 = i * 5 + 5 := by omega
      rw [e1]
      simpa using this
theorem oc_snoc (l : List One) (o : One) : (l ++ [o]).flatMap oc = l.flatMap oc ++ [.int .i64 o.slot, .int .i64 o.gen, .int .i64 o.thing, .bool o.alive, .int .i64 o.back] := by simp [List.flatMap_append, oc]
theorem oc_set (l : List One) (i : Nat) (o : One) (hi : i < l.length) :
    (l.set i o).flatMap oc = (((((l.flatMap oc).set (i * 5) (.int .i64 o.slot)).set (i * 5 + 1) (.int .i64 o.gen)).set (i * 5 + 2) (.int .i64 o.thing)).set (i * 5 + 3) (.bool o.alive)).set (i * 5 + 4) (.int .i64 o.back) := by
  induction l generalizing i with
  | nil => simp at hi
  | cons a l ih =>
    cases i with
    | zero => simp [List.flatMap_cons, oc]
    | succ i =>
      have := ih i (by simpa using hi)
      have e1 : (i + 1) * 5 = i * 5 + 5 := by omega
      simp only [List.set_cons_succ, List.flatMap_cons, this, e1, oc]
      simp

/-- The document's arena lies at d. -/
structure DRep (w : World) (d : Nat) (slots gens : Int) (all : List One) (clock : Int) (va : Value) : Prop where
  blk : Blk w d 52 #[.int .i64 slots, .int .i64 gens, va, .int .i64 clock]
  all : w.ownsRow 0 72 5 va all.length (all.flatMap oc)

def dfoot (d : Nat) (va : Value) (k : Nat) : Prop := k = d ∨ va.ownBlock = some k
structure DNow (w w' : World) (d : Nat) (slots gens : Int) (all : List One) (clock : Int) (va va' : Value) : Prop where
  rep : DRep w' d slots gens all clock va'
  mod : Mod (dfoot d va) w w'
  foots : ∀ k, dfoot d va' k → k < w.heap.size → dfoot d va k

section
variable {w w' : World} {d : Nat} {slots gens clock : Int} {all : List One} {va : Value}
theorem DRep.keep (h : DRep w d slots gens all clock va) (hb : Below w.heap.size w w') : DRep w' d slots gens all clock va :=
  have hm : Mod (fun _ => False) w w' := Mod.ofBelow hb
  ⟨h.blk.mod hm (fun f => f), hm.ownsRow h.all (fun _ _ f => f)⟩
theorem DRep.mod {F : Nat → Prop} (h : DRep w d slots gens all clock va) (hm : Mod F w w') (hF : ∀ k, dfoot d va k → ¬ F k) : DRep w' d slots gens all clock va :=
  ⟨h.blk.mod hm (hF d (.inl rfl)), hm.ownsRow h.all (fun k hk => hF k (.inr hk))⟩
theorem DRep.ne (h : DRep w d slots gens all clock va) : va.ownBlock ≠ some d := own_blk_ne h.all h.blk (by decide)
theorem DRep.footlt (h : DRep w d slots gens all clock va) {k : Nat} (hk : dfoot d va k) : k < w.heap.size := by
  rcases hk with rfl | hk
  · exact h.blk.lt
  · exact (h.all.lt k hk).2
/-- An entry's cells. -/
theorem DRep.at {g cap : Nat} (h : DRep w d slots gens all clock (.slice (some ⟨g, 0, none⟩) all.length cap)) {i : Nat} {o : One} (hi : all[i]? = some o) :
    w.cell? ⟨g, i * 5, none⟩ = some (.int .i64 o.slot) ∧ w.cell? ⟨g, i * 5 + 1, none⟩ = some (.int .i64 o.gen) ∧ w.cell? ⟨g, i * 5 + 2, none⟩ = some (.int .i64 o.thing) ∧ w.cell? ⟨g, i * 5 + 3, none⟩ = some (.bool o.alive) ∧ w.cell? ⟨g, i * 5 + 4, none⟩ = some (.int .i64 o.back) := by
  have hl : i < all.length := (List.getElem?_eq_some_iff.1 hi).1
  obtain ⟨x0, x1, x2, x3, x4⟩ := oc_at all i o hi
  exact ⟨(h.all.cellAt _ (by omega)).trans x0, (h.all.cellAt _ (by omega)).trans x1, (h.all.cellAt _ (by omega)).trans x2, (h.all.cellAt _ (by omega)).trans x3, (h.all.cellAt _ (by omega)).trans x4⟩
end

/-- The last Take of a slot among the first k, -1 if there was none. -/
def lastN (all : List One) (s : Int) : Nat → Int
  | 0 => -1
  | k + 1 => match all[k]? with
    | some o => if o.slot = s then (k : Int) else lastN all s k
    | none => lastN all s k
def lastL (all : List One) (s : Int) : Int := lastN all s all.length
theorem lastN_hit {all : List One} {s : Int} {k : Nat} {o : One} (h : all[k]? = some o) (hs : o.slot = s) : lastN all s (k + 1) = k := by simp [lastN, h, hs]
theorem lastN_miss {all : List One} {s : Int} {k : Nat} {o : One} (h : all[k]? = some o) (hs : ¬ o.slot = s) : lastN all s (k + 1) = lastN all s k := by simp [lastN, h, hs]
theorem lastN_range (all : List One) (s : Int) : ∀ k, -1 ≤ lastN all s k ∧ lastN all s k < k := by
  intro k
  induction k with
  | zero => simp [lastN]
  | succ k ih =>
    unfold lastN
    split
    · split <;> omega
    · omega

/-- Does the entry bear this reference, alive? -/
def isRef (o : One) (s g : Int) : Prop := o.alive = true ∧ o.slot = s ∧ o.gen = g
/-- Where a reference that is alive stands, -1 if nowhere. -/
def IsFind (all : List One) (s g r : Int) : Prop :=
  (r = -1 ∧ ∀ (j : Nat) (o : One), all[j]? = some o → ¬ isRef o s g) ∨ ∃ (k : Nat) (o : One), r = k ∧ all[k]? = some o ∧ isRef o s g ∧ ∀ (j : Nat) (o' : One), j < k → all[j]? = some o' → ¬ isRef o' s g

/-- How many of the first k are alive. -/
def aliveN (all : List One) : Nat → Nat
  | 0 => 0
  | k + 1 => aliveN all k + (match all[k]? with | some o => if o.alive = true then 1 else 0 | none => 0)
theorem aliveN_yes {all : List One} {k : Nat} {o : One} (h : all[k]? = some o) (ha : o.alive = true) : aliveN all (k + 1) = aliveN all k + 1 := by simp [aliveN, h, ha]
theorem aliveN_no {all : List One} {k : Nat} {o : One} (h : all[k]? = some o) (ha : o.alive = false) : aliveN all (k + 1) = aliveN all k := by simp [aliveN, h, ha]
theorem aliveN_le (all : List One) : ∀ k, aliveN all k ≤ k := by
  intro k
  induction k with
  | zero => simp [aliveN]
  | succ k ih =>
    unfold aliveN
    split
    · split <;> omega
    · omega

/-- May the slot of entry k be taken once more, and is k its last Take? -/
def cand (all : List One) (gens : Int) (k : Nat) (o : One) : Prop := o.alive = false ∧ o.gen < gens ∧ lastL all o.slot = (k : Int)
instance (all : List One) (gens : Int) (k : Nat) (o : One) : Decidable (cand all gens k o) := by unfold cand; exact inferInstance

/-- The greatest slot among the first k, -1 if there is none. -/
def highN (all : List One) : Nat → Int
  | 0 => -1
  | k + 1 => match all[k]? with
    | some o => if highN all k < o.slot then o.slot else highN all k
    | none => highN all k
theorem highN_succ {all : List One} {k : Nat} {o : One} (h : all[k]? = some o) : highN all (k + 1) = if highN all k < o.slot then o.slot else highN all k := by simp [highN, h]
/-- The slot given back last that may be taken once more, and when, among the first k. -/
def bestN (all : List One) (gens : Int) : Nat → Int × Int
  | 0 => (-1, -1)
  | k + 1 => match all[k]? with
    | some o => if cand all gens k o ∧ (bestN all gens k).2 < o.back then (o.slot, o.back) else bestN all gens k
    | none => bestN all gens k
theorem bestN_yes {all : List One} {gens : Int} {k : Nat} {o : One} (h : all[k]? = some o) (hc : cand all gens k o) (hb : (bestN all gens k).2 < o.back) : bestN all gens (k + 1) = (o.slot, o.back) := by simp [bestN, h, hc, hb]
theorem bestN_no {all : List One} {gens : Int} {k : Nat} {o : One} (h : all[k]? = some o) (hc : ¬ (cand all gens k o ∧ (bestN all gens k).2 < o.back)) : bestN all gens (k + 1) = bestN all gens k := by simp only [bestN, h]; rw [if_neg hc]
/-- How many of the first k may be taken once more. -/
def freeN (all : List One) (gens : Int) : Nat → Nat
  | 0 => 0
  | k + 1 => freeN all gens k + (match all[k]? with | some o => if cand all gens k o then 1 else 0 | none => 0)
theorem freeN_yes {all : List One} {gens : Int} {k : Nat} {o : One} (h : all[k]? = some o) (hc : cand all gens k o) : freeN all gens (k + 1) = freeN all gens k + 1 := by simp [freeN, h, hc]
theorem freeN_no {all : List One} {gens : Int} {k : Nat} {o : One} (h : all[k]? = some o) (hc : ¬ cand all gens k o) : freeN all gens (k + 1) = freeN all gens k := by simp [freeN, h, hc]
theorem freeN_le (all : List One) (gens : Int) : ∀ k, freeN all gens k ≤ k := by
  intro k
  induction k with
  | zero => simp [freeN]
  | succ k ih =>
    unfold freeN
    split
    · split <;> omega
    · omega
/-- The slot that the next Take takes, -1 if there is none. -/
def pickL (all : List One) (slots gens : Int) : Int :=
  if (bestN all gens all.length).1 < 0 ∧ highN all all.length < slots - 1 then highN all all.length + 1 else (bestN all gens all.length).1
end Go.Proofs.Ytppoakomeaamhaa
