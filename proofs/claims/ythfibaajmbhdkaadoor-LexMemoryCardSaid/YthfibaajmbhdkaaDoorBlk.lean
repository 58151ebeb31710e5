/- A struct stored into a block that is known whole, as one step: no program in sight. -/
import Derived.Test.YthfibaajmbhdkaaDoorMod
import Derived.Deep.WholeRow
import Derived.Deep.MidRow
namespace Go.Proofs.YthfibaajmbhdkaaDoor
open Go.RowKit
variable {P : Program}

theorem mod_setRow (w : World) (b : Nat) (cs : Array Value) : Mod (fun k => k = b) w (w.setRow b cs) :=
  ⟨rfl, rfl, rfl, by simp [World.setRow], fun i hi hn => by
    simp only [World.setRow, Array.getElem?_modify]
    rw [if_neg (fun e => hn e.symm)]⟩
theorem blk_setRow {w : World} {b : Nat} {t : TypeId} {cs0 cs : Array Value} (h : Blk w b t cs0) : Blk (w.setRow b cs) b t cs := by
  unfold Blk at h ⊢
  simp [World.setRow, Array.getElem?_modify, h]

theorem wp_store_blk {op : Oper} {a : Act} {w : World} {K : Act → World → Prop} {Q : Exit → Act → World → Prop} (ty : TypeId) (x y : Operand) (ho : op.op = .store ty x y)
    (b : Nat) (t : TypeId) (cs0 cells : Array Value) (hx : a.eval x = .pointer (some ⟨b, 0, none⟩)) (hy : a.eval y = .agg cells) (hb : Blk w b t cs0)
    (hi : (P.info? ty).map (·.size) = some cells.size) (hsz : cs0.size = cells.size) (h1 : cells.all (·.oneCell') = true)
    (h : ∀ w', Blk w' b t cells → Mod (fun k => k = b) w w' → w'.heap.size = w.heap.size → K (a.put op.dst undef) w') : op.wp P a w K Q := by
  unfold Oper.wp execOp
  simp only [ho, hx, hy, Instr.storeAt, Instr.sureAddr, Sem.run_bind, Sem.run_pure, Result.andThen_ok, run_storeVar_row (P := P) w b t ty cs0 cells hb hi hsz h1]
  exact h _ (blk_setRow hb) (mod_setRow w b cells) (by simp [World.setRow])

theorem wpList_store_blk {ops : Array Oper} {rest : List Oper} {op : Oper} {a : Act} {w : World} {Q : Exit → Act → World → Prop} (hgd : op.guard = none) (ty : TypeId) (x y : Operand) (ho : op.op = .store ty x y)
    (b : Nat) (t : TypeId) (cs0 cells : Array Value) (hx : a.eval x = .pointer (some ⟨b, 0, none⟩)) (hy : a.eval y = .agg cells) (hb : Blk w b t cs0)
    (hi : (P.info? ty).map (·.size) = some cells.size) (hsz : cs0.size = cells.size) (h1 : cells.all (·.oneCell') = true)
    (h : ∀ w', Blk w' b t cells → Mod (fun k => k = b) w w' → w'.heap.size = w.heap.size → wpList P ops Q rest (a.put op.dst undef) w') : wpList P ops Q (op :: rest) a w :=
  wpList_plain hgd fun _ hK => wp_store_blk ty x y ho b t cs0 cells hx hy hb hi hsz h1 fun w' h2 h3 h4 => hK _ _ (h w' h2 h3 h4)

theorem step_store_blk {ops : Array Oper} {op : Oper} {a : Act} {w : World} {K : Act → World → Prop} {Q : Exit → Act → World → Prop} {E : Prop} (hgd : op.guard = none) (ty : TypeId) (x y : Operand) (ho : op.op = .store ty x y)
    (b : Nat) (t : TypeId) (cs0 cells : Array Value) (hx : a.eval x = .pointer (some ⟨b, 0, none⟩)) (hy : a.eval y = .agg cells) (hb : Blk w b t cs0)
    (hi : (P.info? ty).map (·.size) = some cells.size) (hsz : cs0.size = cells.size) (h1 : cells.all (·.oneCell') = true)
    (h : ∀ w', Blk w' b t cells → Mod (fun k => k = b) w w' → w'.heap.size = w.heap.size → K (a.put op.dst undef) w') :
    if Region.wanted op (yielded ops a.tmps) = true then Oper.wp P op a w K Q else E := by
  have hw : Region.wanted op (yielded ops a.tmps) = true := by simp [Region.wanted, hgd]
  rw [if_pos hw]
  exact wp_store_blk ty x y ho b t cs0 cells hx hy hb hi hsz h1 h

/-- Of a block that the call made itself: nothing old is touched. -/
theorem Mod.own {b : Nat} {w0 w w' : World} (h : Below w0.heap.size w0 w) (hm : Mod (fun k => k = b) w w') (hb : w0.heap.size ≤ b) : Below w0.heap.size w0 w' :=
  ⟨hm.os.trans h.os, hm.tape.trans h.tape, hm.output.trans h.output, Nat.le_trans h.size hm.size, fun i hi =>
    (hm.block i (by have hs := h.size; omega) (by omega)).trans (h.block i hi)⟩
end Go.Proofs.YthfibaajmbhdkaaDoor
