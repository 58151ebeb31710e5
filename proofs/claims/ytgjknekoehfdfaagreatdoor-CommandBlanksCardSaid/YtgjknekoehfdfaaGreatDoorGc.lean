/- query.Parse's deferred closure, walked; the state of Parse's named results. query.Parse's door, and a line that Open refuses. The read lists of query.Parse: atoms; what lies where. query.Parse's end: small facts, the door of a frame that returns. -/
import Derived.Test.YtgjknekoehfdfaaGreatDoorGa
import Derived.Test.YtgjknekoehfdfaaGreatDoorGb
import Derived.Test.YtgjknekoehfdfaaGreatDoorQaZ
import Derived.Recover
import Derived.Defers
namespace Go.Proofs.YtgjknekoehfdfaaGreatDoor
open Go.RowKit
set_option linter.unusedVariables false

set_option maxHeartbeats 2000000 in
set_option maxRecDepth 100000 in
theorem query_idle (p q r : Addr) (w : World) :
    CallsD Tryz.prog 92 #[.pointer (some p), .pointer (some q), .pointer (some r)] .returning w fun e u' w' => e = .returned (.tuple #[]) ∧ u' = .returning ∧ w' = w := by
  have hc := caught_nil p q w
  refine callsD_of_wpS Tryz.func92 rfl fun c₀ cs hu => ?_
  apply wpS_seq
  apply wpS_region
  simp [wpOpsS, go_sem, recoverD, hu, Tryz.ntmps92, Exit.thenS]
  refine hc.mono ?_
  rintro e w1 ⟨rfl, rfl⟩
  refine wpS_cond (t := false) (by simp [Act.eval, Array.replicate]) ?_
  simp only [Bool.false_eq_true, if_false]
  refine wpS_of_wp (wp_skip ?_)
  cases c₀
  simp_all [bodyPostS, results, Tryz.results92]

set_option maxHeartbeats 2000000 in
set_option maxRecDepth 100000 in
theorem query_catch0 (a e : Int) (pa pe pr : Nat) (x y n c d : Value) (older : List PanicEntry) (w : World) (ha : w.cell? ⟨pa, 0, none⟩ = some x) (he : w.cell? ⟨pe, 0, none⟩ = some y) (hn : w.cell? ⟨pr, 0, none⟩ = some n) (hc : w.cell? ⟨pr, 1, none⟩ = some c) (hd : w.cell? ⟨pr, 2, none⟩ = some d)
    (fa : w.frozen? ⟨pa, 0, none⟩ = false) (fe : w.frozen? ⟨pe, 0, none⟩ = false) (fn : w.frozen? ⟨pr, 0, none⟩ = false) (fc : w.frozen? ⟨pr, 1, none⟩ = false) (fd : w.frozen? ⟨pr, 2, none⟩ = false) (h1 : pa ≠ pe) (h2 : pa ≠ pr) (h3 : pe ≠ pr) :
    CallsD Tryz.prog 92 #[.pointer (some ⟨pa, 0, none⟩), .pointer (some ⟨pe, 0, none⟩), .pointer (some ⟨pr, 0, none⟩)] (.panicking ({ v := faultV a e, recovered := false } :: older)) w fun x u' w' =>
      x = .returned (.tuple #[]) ∧ u' = .panicking ({ v := faultV a e, recovered := true } :: older) ∧
      w' = ((((((w.setCell ⟨pa, 0, none⟩ (.int .i64 a)).setCell ⟨pe, 0, none⟩ (.int .i64 e)).alloc (.cells #[.int .i64 a, .int .i64 e] 105)).drew).setCell ⟨pr, 0, none⟩ (.string ⟨#[]⟩)).setCell ⟨pr, 1, none⟩ (.slice none 0 0)).setCell ⟨pr, 2, none⟩ (.slice none 0 0) := by
  have hcf := caught_fault a e pa pe x y w ha he fa fe h1
  have HCF := Lib.hid hcf
  clear hcf
  have hrl := World.block_lt_of_cell? w _ hn
  simp at hrl
  have h2' : pr ≠ pa := fun q => h2 q.symm
  have h3' : pr ≠ pe := fun q => h3 q.symm
  have hm : Mod (fun k => k = pa ∨ k = pe) w (((w.setCell ⟨pa, 0, none⟩ (.int .i64 a)).setCell ⟨pe, 0, none⟩ (.int .i64 e)).alloc (.cells #[.int .i64 a, .int .i64 e] 105)) :=
    (((Mod.refl _ w).setCell (p := ⟨pa, 0, none⟩) (fun _ => .inl rfl) _).setCell (p := ⟨pe, 0, none⟩) (fun _ => .inr rfl) _).alloc _
  have hno : ¬ (pr = pa ∨ pr = pe) := fun q => q.elim h2' h3'
  have k0 := (hm.cell (p := ⟨pr, 0, none⟩) hrl hno).trans hn
  have k1 := (hm.cell (p := ⟨pr, 1, none⟩) hrl hno).trans hc
  have k2 := (hm.cell (p := ⟨pr, 2, none⟩) hrl hno).trans hd
  have y0 := (hm.frozen (p := ⟨pr, 0, none⟩) hrl hno).trans fn
  have y1 := (hm.frozen (p := ⟨pr, 1, none⟩) hrl hno).trans fc
  have y2 := (hm.frozen (p := ⟨pr, 2, none⟩) hrl hno).trans fd
  clear hm hno ha he hn hc fa fe fn fc hd fd
  refine callsD_of_wpS Tryz.func92 rfl fun c₀ cs hu => ?_
  apply wpS_seq
  apply wpS_region
  simp [wpOpsS, go_sem, recoverD, hu, Tryz.ntmps92, Exit.thenS]
  refine HCF.out.mono ?_
  rintro e' w1 ⟨rfl, rfl⟩
  refine wpS_cond (t := true) (by simp [Act.eval, Array.replicate]) ?_
  simp only [if_true]
  apply wpS_region
  simp [wpOpsS, go_sem, k0, k1, k2, y0, y1, y2, bodyPostS, results, Tryz.results92]

/-- Parse's named results, in three blocks from n on. -/
structure PQ (w0 : World) (n : Nat) (cs : Array Value) (w : World) : Prop where
  q : Blk w n 41 cs
  a : Blk w (n + 1) 3 #[.int .i64 0]
  e : Blk w (n + 1 + 1) 44 #[.int .i64 0]
  b : Below n w0 w
  s : n + 3 ≤ w.heap.size
section
variable {w0 w w' : World} {n : Nat} {cs : Array Value}
theorem PQ.below (h : PQ w0 n cs w) (hb : Below (n + 3) w w') : PQ w0 n cs w' :=
  ⟨h.q.below hb (by omega), h.a.below hb (by omega), h.e.below hb (by omega), h.b.trans (hb.mono (by omega)), Nat.le_trans h.s hb.size⟩
theorem PQ.mt {Ts : List TypeId} (h : PQ w0 n cs w) (hm : MT (n + 3) Ts w w') : PQ w0 n cs w' := h.below (hm.below h.s)
theorem PQ.keep (h : PQ w0 n cs w) (hb : Below w.heap.size w w') : PQ w0 n cs w' := h.below (hb.mono h.s)
theorem PQ.store (h : PQ w0 n cs w) (i : Nat) (u : Value) : PQ w0 n (cs.setIfInBounds i u) (w.setCell ⟨n, i, none⟩ u) :=
  ⟨h.q.set_ i u, h.a.far (by intro q; simp only at q; omega) u, h.e.far (by intro q; simp only at q; omega) u, h.b.setCell (Nat.le_refl _) u, by simpa [World.setCell] using h.s⟩
end

/-- The closure of a frame that panics: the results tell the fault. -/
theorem query_catch (a e : Int) {w0 w : World} {n : Nat} {x y z : Value} (h : PQ w0 n #[x, y, z] w) :
    CallsD Tryz.prog 92 #[.pointer (some ⟨n + 1, 0, none⟩), .pointer (some ⟨n + 1 + 1, 0, none⟩), .pointer (some ⟨n, 0, none⟩)] (.panicking [{ v := faultV a e, recovered := false }]) w fun x u' w' =>
      x = .returned (.tuple #[]) ∧ u' = .panicking [{ v := faultV a e, recovered := true }] ∧
      w'.cell? ⟨n, 0, none⟩ = some (.string ⟨#[]⟩) ∧ w'.cell? ⟨n, 1, none⟩ = some (.slice none 0 0) ∧ w'.cell? ⟨n, 2, none⟩ = some (.slice none 0 0) ∧ w'.cell? ⟨n + 1, 0, none⟩ = some (.int .i64 a) ∧ w'.cell? ⟨n + 1 + 1, 0, none⟩ = some (.int .i64 e) ∧ Below n w0 w' := by
  have hs := h.s
  refine (query_catch0 a e (n + 1) (n + 1 + 1) n _ _ _ _ _ [] w (h.a.cell 0) (h.e.cell 0) (h.q.cell 0) (h.q.cell 1) (h.q.cell 2) (h.a.frozen 0) (h.e.frozen 0) (h.q.frozen 0) (h.q.frozen 1) (h.q.frozen 2) (by omega) (by omega) (by omega)).mono ?_
  rintro e' u' w' ⟨rfl, rfl, rfl⟩
  have q1 := (((((h.q.far (p := ⟨n + 1, 0, none⟩) (by intro q; simp only at q; omega) (.int .i64 a)).far (p := ⟨n + 1 + 1, 0, none⟩) (by intro q; simp only at q; omega) (.int .i64 e)).alloc (.cells #[.int .i64 a, .int .i64 e] 105)).drew.set_ 0 (.string ⟨#[]⟩)).set_ 1 (.slice none 0 0)).set_ 2 (.slice none 0 0)
  have a1 := (((((h.a.set_ 0 (.int .i64 a)).far (p := ⟨n + 1 + 1, 0, none⟩) (by intro q; simp only at q; omega) (.int .i64 e)).alloc (.cells #[.int .i64 a, .int .i64 e] 105)).drew.far (p := ⟨n, 0, none⟩) (by intro q; simp only at q; omega) (.string ⟨#[]⟩)).far (p := ⟨n, 1, none⟩) (by intro q; simp only at q; omega) (.slice none 0 0)).far (p := ⟨n, 2, none⟩) (by intro q; simp only at q; omega) (.slice none 0 0)
  have e1 := (((((h.e.far (p := ⟨n + 1, 0, none⟩) (by intro q; simp only at q; omega) (.int .i64 a)).set_ 0 (.int .i64 e)).alloc (.cells #[.int .i64 a, .int .i64 e] 105)).drew.far (p := ⟨n, 0, none⟩) (by intro q; simp only at q; omega) (.string ⟨#[]⟩)).far (p := ⟨n, 1, none⟩) (by intro q; simp only at q; omega) (.slice none 0 0)).far (p := ⟨n, 2, none⟩) (by intro q; simp only at q; omega) (.slice none 0 0)
  refine ⟨rfl, rfl, q1.cell 0, q1.cell 1, q1.cell 2, a1.cell 0, e1.cell 0, ?_⟩
  have b1 := (((h.b.setCell (p := ⟨n + 1, 0, none⟩) (by simp only; omega) (.int .i64 a)).setCell (p := ⟨n + 1 + 1, 0, none⟩) (by simp only; omega) (.int .i64 e)).alloc (by simp [World.setCell]; omega) (.cells #[.int .i64 a, .int .i64 e] 105))
  exact (((bdrew b1).setCell (Nat.le_refl _) _).setCell (Nat.le_refl _) _).setCell (Nat.le_refl _) _
end Go.Proofs.YtgjknekoehfdfaaGreatDoor
namespace Go.Proofs.YtgjknekoehfdfaaGreatDoor
open Go.RowKit
set_option linter.unusedVariables false

/-- A slice of atoms of the call's own. -/
def AtomsOwn (B : Nat) (w : World) (v : Value) (al : List Atm) : Prop :=
  ∃ rows : List (List Value), w.ownsRow B 72 2 v al.length rows.flatten ∧ All2 (fun row (a : Atm) => ∃ tv, row = [.string ⟨a.rel.toArray⟩, tv] ∧ w.ownsRow B 76 4 tv a.ts.length (a.ts.flatMap Trm.cells)) rows al
/-- What Parse tells. -/
def QPost (w : World) : PR Qry → Ending → World → Prop
  | .bad a f, e, w' => e = .returned (.tuple #[.agg #[.string ⟨#[]⟩, .slice none 0 0, .slice none 0 0], .int .i64 a, .int .i64 f]) ∧ Below w.heap.size w w'
  | .ok q _, e, w' => ∃ hv av, e = .returned (.tuple #[.agg #[.string ⟨q.name.toArray⟩, hv, av], .int .i64 0, .int .i64 0]) ∧ OwnS w.heap.size w' hv q.head ∧ AtomsOwn w.heap.size w' av q.atoms ∧ Below w.heap.size w w'

theorem PQ.start (w : World) : PQ w w.heap.size #[.string ⟨#[]⟩, .slice none 0 0, .slice none 0 0] (((w.alloc (.cells #[.string ⟨#[]⟩, .slice none 0 0, .slice none 0 0] 41)).alloc (.cells #[.int .i64 0] 3)).alloc (.cells #[.int .i64 0] 44)) := by
  refine ⟨((Blk.new w _ _).alloc _).alloc _, ?_, ?_, balloc (balloc (balloc (Below.refl _ _) _) _) _, by simp⟩
  · have := (Blk.new (w.alloc (.cells #[.string ⟨#[]⟩, .slice none 0 0, .slice none 0 0] 41)) 3 #[.int .i64 0]).alloc (.cells #[.int .i64 0] 44)
    simpa using this
  · have := Blk.new ((w.alloc (.cells #[.string ⟨#[]⟩, .slice none 0 0, .slice none 0 0] 41)).alloc (.cells #[.int .i64 0] 3)) 44 #[.int .i64 0]
    simpa using this

set_option maxHeartbeats 1000000 in
set_option maxRecDepth 100000 in
/-- A fault goes through the door. -/
theorem parse_door {w0 w1 : World} {a f : Int} {x y z : Value} {T : Array Value} (h : PQ w0 w0.heap.size #[x, y, z] w1) (h2 : T[2]?.getD undef = .pointer (some ⟨w0.heap.size, 0, none⟩)) (h3 : T[3]?.getD undef = .pointer (some ⟨w0.heap.size + 1, 0, none⟩)) (h4 : T[4]?.getD undef = .pointer (some ⟨w0.heap.size + 1 + 1, 0, none⟩)) :
    bodyPostD Tryz.prog Tryz.f35 (QPost w0 (.bad a f)) (Exit.panic [{ v := faultV a f, recovered := false }])
      { tmps := T, defers := [{ target := Target.fn (Fn.func 92) #[.pointer (some ⟨w0.heap.size + 1, 0, none⟩), .pointer (some ⟨w0.heap.size + 1 + 1, 0, none⟩), .pointer (some ⟨w0.heap.size, 0, none⟩)], args := #[] }] } w1 := by
  refine leaves_cons (f := 92) (args := #[.pointer (some ⟨w0.heap.size + 1, 0, none⟩), .pointer (some ⟨w0.heap.size + 1 + 1, 0, none⟩), .pointer (some ⟨w0.heap.size, 0, none⟩)]) (by simp) (by simp [go_sem]) ?_
  refine (query_catch a f h).mono ?_
  rintro e u' w2 ⟨rfl, rfl, c0, c1, c2, c3, c4, hb⟩
  have HB := Lib.hid hb
  clear hb h
  simp [Leaves, settle, results, Tryz.results35, go_sem, h2, h3, h4, c0, c1, c2, c3, c4]

  exact ⟨rfl, HB.out⟩

set_option maxHeartbeats 4000000 in
set_option maxRecDepth 100000 in
theorem parse_bad (s : ByteArray) (w : World) (a f : Int) (hop : ∀ W, Below w.heap.size w W → Calls Tryz.prog 53 #[.string s] W fun e w' => e = .panicked [{ v := faultV a f, recovered := false }] ∧ Below W.heap.size W w') :
    Calls Tryz.prog 35 #[.string s] w (QPost w (.bad a f)) := by
  have hmf : ∀ (fn : Fn) (first cap : Array Value) (w : World), (Instr.makeFunc fn first cap).run Tryz.prog w = .ok (.func fn first cap) w := fun _ _ _ _ => rfl
  have hps := PQ.start w
  have ho := hop _ hps.b
  have HPS := Lib.hid hps
  have HO := Lib.hid ho
  clear hps ho hop
  go_enter_defers Tryz.func35, Tryz.ntmps35
  go_wp2_with fail
  refine HO.out.mono ?_
  rintro e w1 ⟨rfl, hb⟩
  have hp := HPS.out.keep hb
  have HP := Lib.hid hp
  clear hb hp
  go_wp2_with fail
  exact parse_door HP.out rfl rfl rfl
end Go.Proofs.YtgjknekoehfdfaaGreatDoor
namespace Go.Proofs.YtgjknekoehfdfaaGreatDoor
open Go.RowKit
set_option linter.unusedVariables false

def AtsOwn (B0 : Nat) (w : World) (v : Value) (xs : List AtP) : Prop := ∃ css : List (List Value), w.ownsRow B0 161 3 v xs.length css.flatten ∧ All2 (AtR w) css xs
theorem AtR.mt {w w' : World} {B : Nat} {Ts : List TypeId} {cs : List Value} {x : AtP} (h : AtR w cs x) (hm : MT B Ts w w') (ht : 164 ∉ Ts) : AtR w' cs x := by
  obtain ⟨tv, rfl, h2⟩ := h
  exact ⟨tv, rfl, hm.ownsRow h2 ht⟩
theorem AtsOwn.mt {B0 B : Nat} {w w' : World} {v : Value} {xs : List AtP} {Ts : List TypeId} (h : AtsOwn B0 w v xs) (hm : MT B Ts w w') (h1 : 161 ∉ Ts) (h2 : 164 ∉ Ts) : AtsOwn B0 w' v xs := by
  obtain ⟨css, h3, h4⟩ := h
  exact ⟨css, hm.ownsRow h3 h1, h4.mono fun c x hh => hh.mt hm h2⟩
theorem AtsOwn.sl {B0 : Nat} {w : World} {v : Value} {xs : List AtP} (h : AtsOwn B0 w v xs) : ∃ (a : Option Addr) (cap : Nat), v = .slice a xs.length cap := by
  obtain ⟨css, h3, h4⟩ := h
  exact own_sl h3
theorem map_flat {α : Type} (f : α → List Value) (l : List α) : (l.map f).flatten = l.flatMap f := by
  induction l with
  | nil => rfl
  | cons a l ih => simp [ih]
theorem all2_and {α β : Type} {R S : β → α → Prop} : ∀ {bs : List β} {al : List α}, All2 R bs al → (∀ b a, a ∈ al → R b a → S b a) → All2 S bs al
  | [], [], _, _ => trivial
  | _ :: _, _ :: _, h, hs => ⟨hs _ _ List.mem_cons_self h.1, all2_and h.2 fun b a ha => hs b a (List.mem_cons_of_mem _ ha)⟩
  | [], _ :: _, h, _ => h.elim
  | _ :: _, [], h, _ => h.elim
theorem all2_mem {α β : Type} {R : β → α → Prop} : ∀ {bs : List β} {al : List α}, All2 R bs al → ∀ b ∈ bs, ∃ a, a ∈ al ∧ R b a
  | [], [], _, b, hb => by simp at hb
  | b0 :: _, a0 :: _, h, b, hb => by
    rcases List.mem_cons.1 hb with rfl | hb
    · exact ⟨a0, List.mem_cons_self, h.1⟩
    · obtain ⟨a, ha, hr⟩ := all2_mem h.2 b hb
      exact ⟨a, List.mem_cons_of_mem _ ha, hr⟩
  | [], _ :: _, h, _, _ => h.elim
  | _ :: _, [], h, _, _ => h.elim
theorem AtsOwn.row {B0 : Nat} {w : World} {v : Value} {xs : List AtP} (h : AtsOwn B0 w v xs) (hl : xs.length ≤ 200000) (ht : ∀ x ∈ xs, x.2.length ≤ 200000) : AtsAt w v xs := by
  obtain ⟨css, h3, h4⟩ := h
  have hll := h4.length
  refine ⟨css, RowAt.ofOwn h3 hll.symm ?_ (by omega), all2_and h4 fun c x hx hr => ?_⟩
  · intro c hc
    obtain ⟨x, _, tv, rfl, _⟩ := all2_mem h4 c hc
    rfl
  · obtain ⟨tv, rfl, ho⟩ := hr
    rw [← map_flat] at ho
    refine ⟨tv, rfl, RowAt.ofOwn ho (by simp) ?_ (by have := ht x hx; simp; omega)⟩
    intro c hc
    simp at hc
    obtain ⟨a, b, _, rfl⟩ := hc
    rfl
theorem namesRow {B0 : Nat} {w : World} {v : Value} {hs : List (List UInt8 × Int)} (h : w.ownsRow B0 151 2 v hs.length (hs.flatMap nameV)) (hl : hs.length ≤ 200000) : RowAt w v 2 (hs.map nameV) := by
  rw [← map_flat] at h
  refine RowAt.ofOwn h (by simp) ?_ (by simp; omega)
  intro c hc
  simp at hc
  obtain ⟨a, b, _, rfl⟩ := hc
  rfl

theorem atoms_any {w : World} {b r : Nat} {c : List Tok} {vt : Value} {B : Nat} (hi : InB w b r) (h : Rs w r c vt) (hB : B ≤ r) (hw : B ≤ w.heap.size) :
    Calls Tryz.prog 97 #[.pointer (some ⟨r, 0, none⟩), .func (.func 98) #[] #[.pointer (some ⟨b, 0, none⟩)]] w
      (PPost (fun xs c' v w' => AtsOwn w.heap.size w' v xs ∧ InB w' b r ∧ Rs w' r c' vt) B [188] w (someP atomP c)) := by
  refine (some_At atomP AtR (fun w _ => InB w b r) B [188] r vt #[.pointer (some ⟨b, 0, none⟩)] atom_less hB (by simp) (by decide) (fun w w' xs hm hj => hj.mt hm (by decide)) (fun _ _ _ _ hm h => h.mt hm (by decide)) ?_ w c h hi hw).mono ?_
  · intro w xs c hw hj hr
    refine (atomClo_any hj hr hB hw).mono fun e w' hp => hp.mono fun x c' v w' hh => ?_
    obtain ⟨cs, rfl, h1, h2, h3⟩ := hh
    refine ⟨cs, rfl, ⟨?_, ?_, h1⟩, h2, h3⟩
    · obtain ⟨tv, rfl, _⟩ := h1
      rfl
    · obtain ⟨tv, rfl, ho⟩ := h1
      have h1 := own_one ho
      intro u hu
      simp only [List.mem_cons, List.not_mem_nil, or_false] at hu
      rcases hu with rfl | rfl | rfl
      · rfl
      · rfl
      · exact h1
  · intro e w' hp
    refine hp.mono fun xs c' v w' hh => ?_
    obtain ⟨css, h1, h2, h3, h4⟩ := hh
    exact ⟨⟨css, h1, h2.mono fun c x hh => hh.2.2⟩, h3, h4⟩
end Go.Proofs.YtgjknekoehfdfaaGreatDoor
namespace Go.Proofs.YtgjknekoehfdfaaGreatDoor
open Go.RowKit
set_option linter.unusedVariables false

def AtmO (B : Nat) (w : World) (row : List Value) (a : Atm) : Prop := ∃ tv, row = [.string ⟨a.rel.toArray⟩, tv] ∧ w.ownsRow B 76 4 tv a.ts.length (a.ts.flatMap Trm.cells)
theorem AtmO.mt {B B' : Nat} {w w' : World} {row : List Value} {a : Atm} {Ts : List TypeId} (h : AtmO B w row a) (hm : MT B' Ts w w') (ht : 76 ∉ Ts) : AtmO B w' row a := by
  obtain ⟨tv, rfl, h2⟩ := h
  exact ⟨tv, rfl, hm.ownsRow h2 ht⟩
theorem Tryz.infoTrm : (Tryz.prog.info? 76).map (fun i => (i.zero, i.size, i.bytes)) = some (some (.agg #[.string ⟨#[]⟩, .int .i64 0, .int .i64 0, .string ⟨#[]⟩]), 4, 48) := by kernel_rfl
theorem Tryz.infoAtm : (Tryz.prog.info? 72).map (fun i => (i.zero, i.size, i.bytes)) = some (some (.agg #[.string ⟨#[]⟩, .slice none 0 0]), 2, 40) := by kernel_rfl

def convA (a : AtP) : Atm := ⟨a.1.1, a.2.map (·.1)⟩
theorem qryOf_atoms (n : List UInt8 × Int) (hs : List (List UInt8 × Int)) (l : List AtP) : (qryOf n hs l).atoms = l.map convA := rfl
theorem limG_small : ∀ {l : List AtP}, limG l = none → ∀ a ∈ l, a.2.length ≤ 5
  | [], _, a, ha => by simp at ha
  | b :: l, h, a, ha => by
    unfold limG at h
    cases hb : b.2[5]? with
    | some t => rw [hb] at h; simp at h
    | none =>
      rw [hb] at h
      have h5 : b.2.length ≤ 5 := List.getElem?_eq_none_iff.1 hb
      rcases List.mem_cons.1 ha with rfl | ha
      · exact h5
      · exact limG_small h a ha
theorem lim_small {l : List AtP} (h : limP l = none) : l.length ≤ 6 ∧ ∀ a ∈ l, a.2.length ≤ 5 := by
  unfold limP at h
  cases h6 : l[6]? with
  | some a => rw [h6] at h; simp at h
  | none =>
    rw [h6] at h
    exact ⟨List.getElem?_eq_none_iff.1 h6, limG_small h⟩
theorem tsum_small : ∀ {l : List AtP}, (∀ a ∈ l, a.2.length ≤ 5) → tsum (l.map convA) ≤ 5 * l.length
  | [], _ => by simp [tsum]
  | a :: l, h => by
    have h1 := tsum_small (l := l) fun a ha => h a (List.mem_cons_of_mem _ ha)
    have h2 := h a List.mem_cons_self
    simp only [tsum, List.map_cons, List.sum_cons, convA, List.length_map, List.length_cons] at h1 ⊢
    omega
theorem dup_range : ∀ (l : List (List UInt8)) (seen : List (List UInt8)) (i : Nat), 0 ≤ dupG seen l i → ∃ j : Nat, dupG seen l i = j ∧ i ≤ j ∧ j < i + l.length
  | [], seen, i, h => by simp [dupG] at h
  | s :: r, seen, i, h => by
    unfold dupG at h ⊢
    split
    · exact ⟨i, rfl, Nat.le_refl _, by simp⟩
    · rename_i hc
      rw [if_neg hc] at h
      obtain ⟨j, h1, h2, h3⟩ := dup_range r _ _ h
      exact ⟨j, h1, by omega, by simp; omega⟩
theorem idxP_range {p : List Value → Bool} {xs : List (List Value)} (h : 0 ≤ idxP p xs) : ∃ j : Nat, idxP p xs = j ∧ j < xs.length := by
  unfold idxP at h ⊢
  cases hf : xs.findIdx? p with
  | none => rw [hf] at h; simp at h
  | some i =>
    obtain ⟨hi, _⟩ := List.findIdx?_eq_some_iff_getElem.1 hf
    exact ⟨i, rfl, hi⟩
theorem atomsRow {B : Nat} {w : World} {v : Value} {n : Nat} {rows : List (List Value)} {al : List Atm} (h : w.ownsRow B 72 2 v n rows.flatten) (hn : n = al.length) (h2 : All2 (AtmO B w) rows al) (hl : al.length ≤ 200000) (ht : ∀ a ∈ al, a.ts.length ≤ 200000) : AtomsAt w v al := by
  have hll := h2.length
  refine ⟨rows, RowAt.ofOwn h (by omega) ?_ (by omega), all2_and h2 fun c x hx hr => ?_⟩
  · intro c hc
    obtain ⟨x, _, tv, rfl, _⟩ := all2_mem h2 c hc
    rfl
  · obtain ⟨tv, rfl, ho⟩ := hr
    rw [← map_flat] at ho
    refine ⟨tv, rfl, RowAt.ofOwn ho (by simp) ?_ (by have := ht x hx; simp; omega), by have := ht x hx; omega⟩
    intro c hc
    simp at hc
    obtain ⟨a, _, rfl⟩ := hc
    rfl

theorem PQ.fin {w0 w : World} {n : Nat} {x y z : Value} (h : PQ w0 n #[x, y, z] w) :
    PQ w0 n #[x, y, z] (((((w.setCell ⟨n, 0, none⟩ x).setCell ⟨n, 1, none⟩ y).setCell ⟨n, 2, none⟩ z).setCell ⟨n + 1, 0, none⟩ (.int .i64 0)).setCell ⟨n + 1 + 1, 0, none⟩ (.int .i64 0)) ∧
    MT 0 [41, 3, 44] w (((((w.setCell ⟨n, 0, none⟩ x).setCell ⟨n, 1, none⟩ y).setCell ⟨n, 2, none⟩ z).setCell ⟨n + 1, 0, none⟩ (.int .i64 0)).setCell ⟨n + 1 + 1, 0, none⟩ (.int .i64 0)) := by
  have h1 := h.store 0 x
  have h2 := h1.store 1 y
  have h3 := h2.store 2 z
  have a4 := h3.a.set_ 0 (.int .i64 0)
  have q4 := h3.q.far (p := ⟨n + 1, 0, none⟩) (by intro q; simp only at q; omega) (.int .i64 0)
  have e4 := h3.e.far (p := ⟨n + 1, 0, none⟩) (by intro q; simp only at q; omega) (.int .i64 0)
  have e5 := e4.set_ 0 (.int .i64 0)
  have q5 := q4.far (p := ⟨n + 1 + 1, 0, none⟩) (by intro q; simp only at q; omega) (.int .i64 0)
  have a5 := a4.far (p := ⟨n + 1 + 1, 0, none⟩) (by intro q; simp only at q; omega) (.int .i64 0)
  simp only [Array.setIfInBounds] at q5 a5 e5
  refine ⟨⟨by simpa using q5, by simpa using a5, by simpa using e5, (h3.b.setCell (by simp only; omega) _).setCell (by simp only; omega) _, by simpa [World.setCell] using h.s⟩, ?_⟩
  have m1 : MT 0 [41, 3, 44] w _ := MT.setCell (i := 0) (MT.refl w) h.q (by simp) (Nat.zero_le _) x
  have m2 := MT.setCell (i := 1) m1 h1.q (by simp) (Nat.zero_le _) y
  have m3 := MT.setCell (i := 2) m2 h2.q (by simp) (Nat.zero_le _) z
  have m4 := MT.setCell (i := 0) m3 h3.a (by simp) (Nat.zero_le _) (.int .i64 0)
  exact MT.setCell (i := 0) m4 e4 (by simp) (Nat.zero_le _) (.int .i64 0)

set_option maxHeartbeats 1000000 in
set_option maxRecDepth 100000 in
/-- The door of a frame that returns. -/
theorem parse_exit {w0 w1 : World} {x y z : Value} {T : Array Value} {Post : Ending → World → Prop} (h : PQ w0 w0.heap.size #[x, y, z] w1) (h2 : T[2]?.getD undef = .pointer (some ⟨w0.heap.size, 0, none⟩)) (h3 : T[3]?.getD undef = .pointer (some ⟨w0.heap.size + 1, 0, none⟩)) (h4 : T[4]?.getD undef = .pointer (some ⟨w0.heap.size + 1 + 1, 0, none⟩))
    (hx : x.oneCell' = true) (hy : y.oneCell' = true) (hz : z.oneCell' = true)
    (hp : Post (.returned (.tuple #[.agg #[x, y, z], .int .i64 0, .int .i64 0])) w1) :
    bodyPostD Tryz.prog Tryz.f35 Post Exit.ret
      { tmps := T, defers := [{ target := Target.fn (Fn.func 92) #[.pointer (some ⟨w0.heap.size + 1, 0, none⟩), .pointer (some ⟨w0.heap.size + 1 + 1, 0, none⟩), .pointer (some ⟨w0.heap.size, 0, none⟩)], args := #[] }] } w1 := by
  have c0 := h.q.cell 0
  have c1 := h.q.cell 1
  have c2 := h.q.cell 2
  have c3 := h.a.cell 0
  have c4 := h.e.cell 0
  simp only [List.getElem?_toArray, List.getElem?_cons_zero, List.getElem?_cons_succ] at c0 c1 c2 c3 c4
  have HP := Lib.hid hp
  clear hp h
  refine leaves_cons (f := 92) (args := #[.pointer (some ⟨w0.heap.size + 1, 0, none⟩), .pointer (some ⟨w0.heap.size + 1 + 1, 0, none⟩), .pointer (some ⟨w0.heap.size, 0, none⟩)]) (by simp) (by simp [go_sem]) ?_
  refine (query_idle _ _ _ _).mono ?_
  rintro e u' w2 ⟨rfl, rfl, rfl⟩
  simp [Leaves, settle, results, Tryz.results35, go_sem, h2, h3, h4, c0, c1, c2, c3, c4]
  exact HP.out
end Go.Proofs.YtgjknekoehfdfaaGreatDoor
