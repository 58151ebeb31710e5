/- schema.Parse's deferred closure, walked; its named results; its doors. -/
import Derived.Test.YtbehonaegfpmoaaDoorGa
import Derived.Test.YtbehonaegfpmoaaDoorSq0Z
import Derived.Defers
import Derived.Recover
namespace Go.Proofs.YtbehonaegfpmoaaDoor
open Go.RowKit
set_option linter.unusedVariables false

set_option maxHeartbeats 2000000 in
set_option maxRecDepth 100000 in
theorem schema_idle (p q r : Addr) (w : World) :
    CallsD Tryd.prog 79 #[.pointer (some p), .pointer (some q), .pointer (some r)] .returning w fun e u' w' => e = .returned (.tuple #[]) ∧ u' = .returning ∧ w' = w := by
  have hc := caught_nil p q w
  refine callsD_of_wpS Tryd.func79 rfl fun c₀ cs hu => ?_
  apply wpS_seq
  apply wpS_region
  simp [wpOpsS, go_sem, recoverD, hu, Tryd.ntmps79, Exit.thenS]
  refine hc.mono ?_
  rintro e w1 ⟨rfl, rfl⟩
  refine wpS_cond (t := false) (by simp [Act.eval, Array.replicate]) ?_
  simp only [Bool.false_eq_true, if_false]
  refine wpS_of_wp (wp_skip ?_)
  cases c₀
  simp_all [bodyPostS, results, Tryd.results79]

set_option maxHeartbeats 2000000 in
set_option maxRecDepth 100000 in
theorem schema_catch0 (a e : Int) (pa pe pr : Nat) (x y n c : Value) (older : List PanicEntry) (w : World) (ha : w.cell? ⟨pa, 0, none⟩ = some x) (he : w.cell? ⟨pe, 0, none⟩ = some y) (hn : w.cell? ⟨pr, 0, none⟩ = some n) (hc : w.cell? ⟨pr, 1, none⟩ = some c)
    (fa : w.frozen? ⟨pa, 0, none⟩ = false) (fe : w.frozen? ⟨pe, 0, none⟩ = false) (fn : w.frozen? ⟨pr, 0, none⟩ = false) (fc : w.frozen? ⟨pr, 1, none⟩ = false) (h1 : pa ≠ pe) (h2 : pa ≠ pr) (h3 : pe ≠ pr) :
    CallsD Tryd.prog 79 #[.pointer (some ⟨pa, 0, none⟩), .pointer (some ⟨pe, 0, none⟩), .pointer (some ⟨pr, 0, none⟩)] (.panicking ({ v := faultV a e, recovered := false } :: older)) w fun x u' w' =>
      x = .returned (.tuple #[]) ∧ u' = .panicking ({ v := faultV a e, recovered := true } :: older) ∧
      w' = (((((w.setCell ⟨pa, 0, none⟩ (.int .i64 a)).setCell ⟨pe, 0, none⟩ (.int .i64 e)).alloc (.cells #[.int .i64 a, .int .i64 e] 123)).drew).setCell ⟨pr, 0, none⟩ (.string ⟨#[]⟩)).setCell ⟨pr, 1, none⟩ (.slice none 0 0) := by
  have hcf := caught_fault a e pa pe x y w ha he fa fe h1
  have HCF := Lib.hid hcf
  clear hcf
  have hrl := World.block_lt_of_cell? w _ hn
  simp at hrl
  have h2' : pr ≠ pa := fun q => h2 q.symm
  have h3' : pr ≠ pe := fun q => h3 q.symm
  have hm : Mod (fun k => k = pa ∨ k = pe) w (((w.setCell ⟨pa, 0, none⟩ (.int .i64 a)).setCell ⟨pe, 0, none⟩ (.int .i64 e)).alloc (.cells #[.int .i64 a, .int .i64 e] 123)) :=
    (((Mod.refl _ w).setCell (p := ⟨pa, 0, none⟩) (fun _ => .inl rfl) _).setCell (p := ⟨pe, 0, none⟩) (fun _ => .inr rfl) _).alloc _
  have hno : ¬ (pr = pa ∨ pr = pe) := fun q => q.elim h2' h3'
  have k0 := (hm.cell (p := ⟨pr, 0, none⟩) hrl hno).trans hn
  have k1 := (hm.cell (p := ⟨pr, 1, none⟩) hrl hno).trans hc
  have y0 := (hm.frozen (p := ⟨pr, 0, none⟩) hrl hno).trans fn
  have y1 := (hm.frozen (p := ⟨pr, 1, none⟩) hrl hno).trans fc
  clear hm hno ha he hn hc fa fe fn fc
  refine callsD_of_wpS Tryd.func79 rfl fun c₀ cs hu => ?_
  apply wpS_seq
  apply wpS_region
  simp [wpOpsS, go_sem, recoverD, hu, Tryd.ntmps79, Exit.thenS]
  refine HCF.out.mono ?_
  rintro e' w1 ⟨rfl, rfl⟩
  refine wpS_cond (t := true) (by simp [Act.eval, Array.replicate]) ?_
  simp only [if_true]
  apply wpS_region
  simp [wpOpsS, go_sem, k0, k1, y0, y1, bodyPostS, results, Tryd.results79]
/-- Parse's named results, in three blocks from n on. -/
structure PS (w0 : World) (n : Nat) (cs : Array Value) (w : World) : Prop where
  q : Blk w n 58 cs
  a : Blk w (n + 1) 3 #[.int .i64 0]
  e : Blk w (n + 1 + 1) 26 #[.int .i64 0]
  b : Below n w0 w
  s : n + 3 ≤ w.heap.size
section
variable {w0 w w' : World} {n : Nat} {cs : Array Value}
theorem PS.below (h : PS w0 n cs w) (hb : Below (n + 3) w w') : PS w0 n cs w' :=
  ⟨h.q.below hb (by omega), h.a.below hb (by omega), h.e.below hb (by omega), h.b.trans (hb.mono (by omega)), Nat.le_trans h.s hb.size⟩
theorem PS.mt {Ts : List TypeId} (h : PS w0 n cs w) (hm : MT (n + 3) Ts w w') : PS w0 n cs w' := h.below (hm.below h.s)
theorem PS.keep (h : PS w0 n cs w) (hb : Below w.heap.size w w') : PS w0 n cs w' := h.below (hb.mono h.s)
theorem PS.store (h : PS w0 n cs w) (i : Nat) (u : Value) : PS w0 n (cs.setIfInBounds i u) (w.setCell ⟨n, i, none⟩ u) :=
  ⟨h.q.set_ i u, h.a.far (by intro q; simp only at q; omega) u, h.e.far (by intro q; simp only at q; omega) u, h.b.setCell (Nat.le_refl _) u, by simpa [World.setCell] using h.s⟩
end

/-- The closure of a frame that panics: the results tell the fault. -/
theorem schema_catch (a e : Int) {w0 w : World} {n : Nat} {x y : Value} (h : PS w0 n #[x, y] w) :
    CallsD Tryd.prog 79 #[.pointer (some ⟨n + 1, 0, none⟩), .pointer (some ⟨n + 1 + 1, 0, none⟩), .pointer (some ⟨n, 0, none⟩)] (.panicking [{ v := faultV a e, recovered := false }]) w fun x u' w' =>
      x = .returned (.tuple #[]) ∧ u' = .panicking [{ v := faultV a e, recovered := true }] ∧
      w'.cell? ⟨n, 0, none⟩ = some (.string ⟨#[]⟩) ∧ w'.cell? ⟨n, 1, none⟩ = some (.slice none 0 0) ∧ w'.cell? ⟨n + 1, 0, none⟩ = some (.int .i64 a) ∧ w'.cell? ⟨n + 1 + 1, 0, none⟩ = some (.int .i64 e) ∧ Below n w0 w' := by
  have hs := h.s
  refine (schema_catch0 a e (n + 1) (n + 1 + 1) n _ _ _ _ [] w (h.a.cell 0) (h.e.cell 0) (h.q.cell 0) (h.q.cell 1) (h.a.frozen 0) (h.e.frozen 0) (h.q.frozen 0) (h.q.frozen 1) (by omega) (by omega) (by omega)).mono ?_
  rintro e' u' w' ⟨rfl, rfl, rfl⟩
  have q1 := ((((h.q.far (p := ⟨n + 1, 0, none⟩) (by intro q; simp only at q; omega) (.int .i64 a)).far (p := ⟨n + 1 + 1, 0, none⟩) (by intro q; simp only at q; omega) (.int .i64 e)).alloc (.cells #[.int .i64 a, .int .i64 e] 123)).drew.set_ 0 (.string ⟨#[]⟩)).set_ 1 (.slice none 0 0)
  have a1 := ((((h.a.set_ 0 (.int .i64 a)).far (p := ⟨n + 1 + 1, 0, none⟩) (by intro q; simp only at q; omega) (.int .i64 e)).alloc (.cells #[.int .i64 a, .int .i64 e] 123)).drew.far (p := ⟨n, 0, none⟩) (by intro q; simp only at q; omega) (.string ⟨#[]⟩)).far (p := ⟨n, 1, none⟩) (by intro q; simp only at q; omega) (.slice none 0 0)
  have e1 := ((((h.e.far (p := ⟨n + 1, 0, none⟩) (by intro q; simp only at q; omega) (.int .i64 a)).set_ 0 (.int .i64 e)).alloc (.cells #[.int .i64 a, .int .i64 e] 123)).drew.far (p := ⟨n, 0, none⟩) (by intro q; simp only at q; omega) (.string ⟨#[]⟩)).far (p := ⟨n, 1, none⟩) (by intro q; simp only at q; omega) (.slice none 0 0)
  refine ⟨rfl, rfl, q1.cell 0, q1.cell 1, a1.cell 0, e1.cell 0, ?_⟩
  have b1 := (((h.b.setCell (p := ⟨n + 1, 0, none⟩) (by simp only; omega) (.int .i64 a)).setCell (p := ⟨n + 1 + 1, 0, none⟩) (by simp only; omega) (.int .i64 e)).alloc (by simp [World.setCell]; omega) (.cells #[.int .i64 a, .int .i64 e] 123))
  exact ((bdrew b1).setCell (Nat.le_refl _) _).setCell (Nat.le_refl _) _

/-- What Parse tells. -/
def SPost (w : World) : PR Rln → Ending → World → Prop
  | .bad a f, e, w' => e = .returned (.tuple #[.agg #[.string ⟨#[]⟩, .slice none 0 0], .int .i64 a, .int .i64 f]) ∧ Below w.heap.size w w'
  | .ok q _, e, w' => ∃ cv, e = .returned (.tuple #[.agg #[.string ⟨q.name.toArray⟩, cv], .int .i64 0, .int .i64 0]) ∧ ColsOwn w.heap.size w' cv q.cols ∧ Below w.heap.size w w'

theorem PS.start (w : World) : PS w w.heap.size #[.string ⟨#[]⟩, .slice none 0 0] (((w.alloc (.cells #[.string ⟨#[]⟩, .slice none 0 0] 58)).alloc (.cells #[.int .i64 0] 3)).alloc (.cells #[.int .i64 0] 26)) := by
  refine ⟨((Blk.new w _ _).alloc _).alloc _, ?_, ?_, balloc (balloc (balloc (Below.refl _ _) _) _) _, by simp⟩
  · have := (Blk.new (w.alloc (.cells #[.string ⟨#[]⟩, .slice none 0 0] 58)) 3 #[.int .i64 0]).alloc (.cells #[.int .i64 0] 26)
    simpa using this
  · have := Blk.new ((w.alloc (.cells #[.string ⟨#[]⟩, .slice none 0 0] 58)).alloc (.cells #[.int .i64 0] 3)) 26 #[.int .i64 0]
    simpa using this

set_option maxHeartbeats 1000000 in
set_option maxRecDepth 100000 in
/-- A fault goes through the door. -/
theorem sch_door {w0 w1 : World} {a f : Int} {x y : Value} {T : Array Value} (h : PS w0 w0.heap.size #[x, y] w1) (h2 : T[2]?.getD undef = .pointer (some ⟨w0.heap.size, 0, none⟩)) (h3 : T[3]?.getD undef = .pointer (some ⟨w0.heap.size + 1, 0, none⟩)) (h4 : T[4]?.getD undef = .pointer (some ⟨w0.heap.size + 1 + 1, 0, none⟩)) :
    bodyPostD Tryd.prog Tryd.f32 (SPost w0 (.bad a f)) (Exit.panic [{ v := faultV a f, recovered := false }])
      { tmps := T, defers := [{ target := Target.fn (Fn.func 79) #[.pointer (some ⟨w0.heap.size + 1, 0, none⟩), .pointer (some ⟨w0.heap.size + 1 + 1, 0, none⟩), .pointer (some ⟨w0.heap.size, 0, none⟩)], args := #[] }] } w1 := by
  refine leaves_cons (f := 79) (args := #[.pointer (some ⟨w0.heap.size + 1, 0, none⟩), .pointer (some ⟨w0.heap.size + 1 + 1, 0, none⟩), .pointer (some ⟨w0.heap.size, 0, none⟩)]) (by simp) (by simp [go_sem]) ?_
  refine (schema_catch a f h).mono ?_
  rintro e u' w2 ⟨rfl, rfl, c0, c1, c3, c4, hb⟩
  have HB := Lib.hid hb
  clear hb h
  simp [Leaves, settle, results, Tryd.results32, go_sem, h2, h3, h4, c0, c1, c3, c4]
  exact ⟨rfl, HB.out⟩

theorem PS.fin {w0 w : World} {n : Nat} {x y : Value} (h : PS w0 n #[x, y] w) :
    PS w0 n #[x, y] ((((w.setCell ⟨n, 0, none⟩ x).setCell ⟨n, 1, none⟩ y).setCell ⟨n + 1, 0, none⟩ (.int .i64 0)).setCell ⟨n + 1 + 1, 0, none⟩ (.int .i64 0)) ∧
    MT 0 [58, 3, 26] w ((((w.setCell ⟨n, 0, none⟩ x).setCell ⟨n, 1, none⟩ y).setCell ⟨n + 1, 0, none⟩ (.int .i64 0)).setCell ⟨n + 1 + 1, 0, none⟩ (.int .i64 0)) := by
  have h1 := h.store 0 x
  have h2 := h1.store 1 y
  have a4 := h2.a.set_ 0 (.int .i64 0)
  have q4 := h2.q.far (p := ⟨n + 1, 0, none⟩) (by intro q; simp only at q; omega) (.int .i64 0)
  have e4 := h2.e.far (p := ⟨n + 1, 0, none⟩) (by intro q; simp only at q; omega) (.int .i64 0)
  have e5 := e4.set_ 0 (.int .i64 0)
  have q5 := q4.far (p := ⟨n + 1 + 1, 0, none⟩) (by intro q; simp only at q; omega) (.int .i64 0)
  have a5 := a4.far (p := ⟨n + 1 + 1, 0, none⟩) (by intro q; simp only at q; omega) (.int .i64 0)
  simp only [Array.setIfInBounds] at q5 a5 e5
  refine ⟨⟨by simpa using q5, by simpa using a5, by simpa using e5, (h2.b.setCell (by simp only; omega) _).setCell (by simp only; omega) _, by simpa [World.setCell] using h.s⟩, ?_⟩
  have m1 : MT 0 [58, 3, 26] w _ := MT.setCell (i := 0) (MT.refl w) h.q (by simp) (Nat.zero_le _) x
  have m2 := MT.setCell (i := 1) m1 h1.q (by simp) (Nat.zero_le _) y
  have m4 := MT.setCell (i := 0) m2 h2.a (by simp) (Nat.zero_le _) (.int .i64 0)
  exact MT.setCell (i := 0) m4 e4 (by simp) (Nat.zero_le _) (.int .i64 0)

set_option maxHeartbeats 1000000 in
set_option maxRecDepth 100000 in
/-- The door of a frame that returns. -/
theorem sch_exit {w0 w1 : World} {x y : Value} {T : Array Value} {Post : Ending → World → Prop} (h : PS w0 w0.heap.size #[x, y] w1) (h2 : T[2]?.getD undef = .pointer (some ⟨w0.heap.size, 0, none⟩)) (h3 : T[3]?.getD undef = .pointer (some ⟨w0.heap.size + 1, 0, none⟩)) (h4 : T[4]?.getD undef = .pointer (some ⟨w0.heap.size + 1 + 1, 0, none⟩))
    (hx : x.oneCell' = true) (hy : y.oneCell' = true)
    (hp : Post (.returned (.tuple #[.agg #[x, y], .int .i64 0, .int .i64 0])) w1) :
    bodyPostD Tryd.prog Tryd.f32 Post Exit.ret
      { tmps := T, defers := [{ target := Target.fn (Fn.func 79) #[.pointer (some ⟨w0.heap.size + 1, 0, none⟩), .pointer (some ⟨w0.heap.size + 1 + 1, 0, none⟩), .pointer (some ⟨w0.heap.size, 0, none⟩)], args := #[] }] } w1 := by
  have c0 := h.q.cell 0
  have c1 := h.q.cell 1
  have c3 := h.a.cell 0
  have c4 := h.e.cell 0
  simp only [List.getElem?_toArray, List.getElem?_cons_zero, List.getElem?_cons_succ] at c0 c1 c3 c4
  have HP := Lib.hid hp
  clear hp h
  refine leaves_cons (f := 79) (args := #[.pointer (some ⟨w0.heap.size + 1, 0, none⟩), .pointer (some ⟨w0.heap.size + 1 + 1, 0, none⟩), .pointer (some ⟨w0.heap.size, 0, none⟩)]) (by simp) (by simp [go_sem]) ?_
  refine (schema_idle _ _ _ _).mono ?_
  rintro e u' w2 ⟨rfl, rfl, rfl⟩
  simp [Leaves, settle, results, Tryd.results32, go_sem, h2, h3, h4, c0, c1, c3, c4]
  exact HP.out

set_option maxHeartbeats 4000000 in
set_option maxRecDepth 100000 in
theorem sch_bad (s : ByteArray) (w : World) (a f : Int) (hop : ∀ W, Below w.heap.size w W → Calls Tryd.prog 55 #[.string s] W fun e w' => e = .panicked [{ v := faultV a f, recovered := false }] ∧ Below W.heap.size W w') :
    Calls Tryd.prog 32 #[.string s] w (SPost w (.bad a f)) := by
  have hmf : ∀ (fn : Fn) (first cap : Array Value) (w : World), (Instr.makeFunc fn first cap).run Tryd.prog w = .ok (.func fn first cap) w := fun _ _ _ _ => rfl
  have hps := PS.start w
  have ho := hop _ hps.b
  have HPS := Lib.hid hps
  have HO := Lib.hid ho
  clear hps ho hop
  go_enter_defers Tryd.func32, Tryd.ntmps32
  go_wp2_with fail
  refine HO.out.mono ?_
  rintro e w1 ⟨rfl, hb⟩
  have hp := HPS.out.keep hb
  have HP := Lib.hid hp
  clear hb hp
  go_wp2_with fail
  exact sch_door HP.out rfl rfl rfl
end Go.Proofs.YtbehonaegfpmoaaDoor
