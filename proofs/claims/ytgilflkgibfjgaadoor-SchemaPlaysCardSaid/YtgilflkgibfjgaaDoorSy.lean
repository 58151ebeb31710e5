/- What may be written over: a row of a call's own. A script of a schema's calls as an argument, opened. For SchemaPlays: relations that may be written over. osierref08.Check, Show, walked. schema.All, osierref08.Add, osierlaw08.sameAll, walked. For SchemaPlays: what is kept from call to call; what Find tells, in one. -/
import Derived.Test.YtgilflkgibfjgaaDoorGa
import Derived.Test.YtgilflkgibfjgaaDoorGb
import Derived.Test.YtgilflkgibfjgaaDoorRa
import Derived.Test.YtgilflkgibfjgaaDoorGh
import Derived.Test.YtgilflkgibfjgaaDoorRw
import Derived.Test.YtgilflkgibfjgaaDoorKb
import Derived.Test.YtgilflkgibfjgaaDoorLf
import Derived.Test.YtgilflkgibfjgaaDoorKx
import Derived.Test.YtgilflkgibfjgaaDoorCy
import Derived.Test.YtgilflkgibfjgaaDoorCk
import Derived.Test.YtgilflkgibfjgaaDoorKe
import Derived.Test.YtgilflkgibfjgaaDoorGr
import Derived.Deep.MidRow
import Derived.Lib.SmallJoins
import Derived.Deep.QuietTactic
import Derived.BigQuiet
import Derived.Deep.RegionLaw
namespace Go.Proofs.YtgilflkgibfjgaaDoor
open Go.RowKit
set_option linter.unusedVariables false

theorem mod_setCellsQ {F : Nat → Prop} {b : Nat} (hb : F b) : ∀ (vs : List Value) (o : Nat) (w : World), Mod F w (w.setCells b o vs)
  | [], _, w => Mod.refl _ w
  | v :: r, o, w => by
    rw [World.setCells]
    exact ((Mod.refl F w).setCell (p := ⟨b, o, none⟩) (fun _ => hb) v).trans (mod_setCellsQ hb r (o + 1) _) (fun _ _ h => h)
theorem size_setCells (b o : Nat) (vs : List Value) (w : World) : w.heap.size ≤ (w.setCells b o vs).heap.size := (mod_setCellsQ (F := fun _ => True) trivial vs o w).size
/-- A row that may be written over, its block where F says. -/
def Wrt (F : Nat → Prop) (w : World) (sz : Nat) (a : Option Addr) (n : Nat) : Prop := n = 0 ∨ ∃ g, a = some ⟨g, 0, none⟩ ∧ F g ∧ g < w.heap.size ∧ w.there g 0 (n * sz)
theorem there_ofOwn {w : World} {base : Nat} {e : TypeId} {sz g n cap : Nat} {xs : List Value} (h : w.ownsRow base e sz (.slice (some ⟨g, 0, none⟩) n cap) n xs) (hx : xs.length = n * sz) : w.there g 0 (n * sz) := by
  intro j hj
  have h1 := h.cellAt j (by omega)
  have h2 := h.frozenAt j
  rw [Nat.zero_add]
  refine ⟨?_, h2⟩
  rw [h1, List.getElem?_eq_getElem (by omega)]
  rfl
theorem Wrt.ofOwn {F : Nat → Prop} {w : World} {base : Nat} {e : TypeId} {sz n cap : Nat} {a : Option Addr} {xs : List Value} (h : w.ownsRow base e sz (.slice a n cap) n xs) (hx : xs.length = n * sz) (hF : ∀ g, a = some ⟨g, 0, none⟩ → g < w.heap.size → base ≤ g → F g) : Wrt F w sz a n := by
  rcases Nat.eq_zero_or_pos n with h0 | h0
  · exact .inl h0
  · obtain ⟨g, c, hv, h1, h2⟩ := h.form h0
    injection hv with hv _ _
    subst hv
    exact .inr ⟨g, rfl, hF g rfl h2 h1, h2, there_ofOwn h hx⟩
theorem Wrt.mod {F G : Nat → Prop} {w w' : World} {sz n : Nat} {a : Option Addr} (h : Wrt F w sz a n) (hm : Mod G w w') (hn : ∀ g, F g → ¬ G g) : Wrt F w' sz a n := by
  rcases h with h | ⟨g, rfl, hF, hl, ht⟩
  · exact .inl h
  · refine .inr ⟨g, rfl, hF, Nat.lt_of_lt_of_le hl hm.size, fun j hj => ?_⟩
    have hb := hm.block g hl (hn g hF)
    obtain ⟨h1, h2⟩ := ht j hj
    refine ⟨?_, ?_⟩
    · rw [World.cell?_of_block hb]; exact h1
    · rw [World.frozen?_of_block hb]; exact h2
theorem Wrt.set {F : Nat → Prop} {w : World} {sz n : Nat} {a : Option Addr} (h : Wrt F w sz a n) (b o : Nat) (vs : List Value) : Wrt F (w.setCells b o vs) sz a n := by
  rcases h with h | ⟨g, rfl, hF, hl, ht⟩
  · exact .inl h
  · refine .inr ⟨g, rfl, hF, ?_, World.there_setCells ht b o vs⟩
    exact Nat.lt_of_lt_of_le hl (size_setCells _ _ _ _)
theorem Blk.modQ {G : Nat → Prop} {w w' : World} {g : Nat} {t : TypeId} {cs : Array Value} (h : Blk w g t cs) (hm : Mod G w w') (hn : ¬ G g) : Blk w' g t cs := by
  have h1 := hm.block g h.lt hn
  show w'.heap[g]? = _
  rw [h1]
  exact h
/-- A row that may be written over, at one place. -/
theorem Wrt.at_ {F : Nat → Prop} {w : World} {sz n : Nat} {a : Option Addr} (h : Wrt F w sz a n) (h0 : 0 < n) : ∃ g, a = some ⟨g, 0, none⟩ ∧ F g ∧ g < w.heap.size ∧ ∀ j, j < n * sz → (∃ u, w.cell? ⟨g, j, none⟩ = some u) ∧ w.frozen? ⟨g, j, none⟩ = false := by
  rcases h with h | ⟨g, rfl, hF, hl, ht⟩
  · omega
  · refine ⟨g, rfl, hF, hl, fun j hj => ?_⟩
    obtain ⟨h1, h2⟩ := ht j hj
    rw [Nat.zero_add] at h1 h2
    exact ⟨Option.isSome_iff_exists.1 h1, h2⟩
end Go.Proofs.YtgilflkgibfjgaaDoor
namespace Go.Proofs.YtgilflkgibfjgaaDoor
open Go.ChangeShapes Go.WideShapes Go.ChangeAt Go.RowKit Go.Deep
set_option linter.unusedVariables false

/-- One call of a script. -/
structure Opn where
  k : Int
  r : Rln
  nm : List UInt8
  row : List Vl
/-- Its cells. -/
def OpC (w : World) (cells : List Value) (o : Opn) : Prop := ∃ cv rv, cells = [.int .i64 o.k, .string ⟨o.r.name.toArray⟩, cv, .string ⟨o.nm.toArray⟩, rv] ∧ ColsAt w cv o.r.cols ∧ o.r.cols.length ≤ 5864062014634 ∧ RowAt w rv 3 (o.row.map Vl.cells) ∧ o.row.length ≤ 4398046511104
/-- A slice of calls. -/
def OpsAt (w : World) (v : Value) (l : List Opn) : Prop := ∃ rows, RowAt w v 5 rows ∧ All2 (OpC w) rows l
theorem OpC.keep {w w' : World} {row : List Value} {a : Opn} (h : OpC w row a) (hb : Below w.heap.size w w') : OpC w' row a := by
  obtain ⟨cv, rv, rfl, h2, h3, h4, h5⟩ := h
  exact ⟨cv, rv, rfl, RowAt.keep h2 hb, h3, RowAt.keep h4 hb, h5⟩
theorem OpsAt.keep {w w' : World} {v : Value} {l : List Opn} (h : OpsAt w v l) (hb : Below w.heap.size w w') : OpsAt w' v l := by
  obtain ⟨rows, h1, h2⟩ := h
  exact ⟨rows, h1.keep hb, h2.mono fun b a hh => hh.keep hb⟩
theorem OpsAt.form {w : World} {v : Value} {l : List Opn} (h : OpsAt w v l) : ∃ (ad : Option Addr) (cap : Nat), v = .slice ad l.length cap ∧ l.length ≤ cap ∧ cap ≤ maxLen := by
  obtain ⟨rows, h1, h2⟩ := h
  obtain ⟨ad, cap, hv, h3, h4⟩ := h1.form
  rw [h2.length] at hv h3
  exact ⟨ad, cap, hv, h3, h4⟩
theorem OpsAt.get {w : World} {v : Value} {l : List Opn} (h : OpsAt w v l) {i : Nat} {a : Opn} (hi : l[i]? = some a) : ∃ (b off cap : Nat) (cv rv : Value), v = .slice (some ⟨b, off, none⟩) l.length cap ∧ l.length ≤ cap ∧ cap ≤ maxLen ∧ b < w.heap.size ∧
    w.cell? ⟨b, off + i * 5, none⟩ = some (.int .i64 a.k) ∧ w.cell? ⟨b, off + i * 5 + 1, none⟩ = some (.string ⟨a.r.name.toArray⟩) ∧ w.cell? ⟨b, off + i * 5 + 2, none⟩ = some cv ∧ w.cell? ⟨b, off + i * 5 + 3, none⟩ = some (.string ⟨a.nm.toArray⟩) ∧ w.cell? ⟨b, off + i * 5 + 4, none⟩ = some rv ∧
    ColsAt w cv a.r.cols ∧ a.r.cols.length ≤ 5864062014634 ∧ RowAt w rv 3 (a.row.map Vl.cells) ∧ a.row.length ≤ 4398046511104 := by
  obtain ⟨rows, h1, h2⟩ := h
  obtain ⟨row, hr, cv, rv, rfl, h3, h4, h3', h4'⟩ := h2.get hi
  obtain ⟨b, off, cap, hv, h5, h6, h7, h8⟩ := h1.get hr
  rw [h2.length] at hv h5
  exact ⟨b, off, cap, cv, rv, hv, h5, h6, h7, h8 0 _ rfl, h8 1 _ rfl, h8 2 _ rfl, h8 3 _ rfl, h8 4 _ rfl, h3, h4, h3', h4'⟩
section
variable {H : Type} {enc : TypeId × Value → H} {w : World} {spare : Nat → Bool} {held : Bool}
set_option maxRecDepth 100000 in
theorem op_open {n : Nat} {row : List Value} {d : DataW H} {Pl : List MemPlace} (h : DataW.trod enc Tryd.prog w 0 spare held n 83 row = some (d, Pl)) (hs : Sz Tryd.prog 83 d) :
    ∃ a : Opn, OpC w row a ∧ a.r.name.length ≤ 140737488351232 ∧ ∀ c ∈ a.r.cols, c.x.length ≤ 140737488351232 := by
  obtain ⟨y0, y1, y2, y3, m, hx, hl, h0, h1, h2, h3⟩ := Go.Joins.trod_struct4 Tryd.underlying83 h
  have hc : Tryd.prog.cellsOf 83 = 5 := by kernel_rfl
  have c0 : Tryd.prog.cellsOf 3 = 1 := by kernel_rfl
  have c1 : Tryd.prog.cellsOf 64 = 2 := by kernel_rfl
  have c2 : Tryd.prog.cellsOf 9 = 1 := by kernel_rfl
  have c3 : Tryd.prog.cellsOf 35 = 1 := by kernel_rfl
  rw [hc] at hl
  simp only [Prod.mk.injEq] at hx
  rw [hx.1] at hs
  obtain ⟨a, b, c, e, f, rfl⟩ := len5 hl
  simp only [c0, c1, c2, c3, List.drop_zero, List.take_succ_cons, List.take_zero, List.drop_succ_cons] at h0 h1 h2 h3
  obtain ⟨k, e0, f0, _⟩ := DataW.trod_int Tryd.underlying3 h0
  obtain ⟨r, ⟨cv, e1, hr1, hr2⟩, hr3, hr4⟩ := rel_open (d := y1.1) (Pl := y1.2) h1 (hs.field Tryd.underlying83 (j := 1) rfl rfl)
  obtain ⟨s, e2, f2, _⟩ := DataW.trod_string Tryd.underlying9 h2
  simp only [List.cons.injEq, and_true] at e0 e1 e2
  obtain ⟨rfl, rfl⟩ := e1
  subst e0 e2
  obtain ⟨vs, h4, h5, _⟩ := vals_open Tryd.underlying35 h3 (hs.field Tryd.underlying83 (j := 3) rfl rfl)
  exact ⟨⟨k, r, s.data.toList, vs⟩, ⟨c, f, by simp, hr1, hr2, h4, h5⟩, hr3, hr4⟩
set_option maxRecDepth 100000 in
theorem ops_arg {base : Nat} {v : Value} {d : DataW H} {p : List MemPlace} (hv : Value.okWide Tryd.prog w .any base 81 v) (h : DataW.Trod enc Tryd.prog w 0 spare held 81 v d p) (hs : Sz Tryd.prog 81 d) :
    ∃ l : List Opn, OpsAt w v l ∧ (∀ a ∈ l, a.r.name.length ≤ 140737488351232 ∧ ∀ x ∈ a.r.cols, x.x.length ≤ 140737488351232) ∧ l.length ≤ 1599289640354 := by
  have hb : Tryd.prog.bytesOf 83 = 88 := by kernel_rfl
  obtain ⟨a0, len, cap, rfl⟩ := okWide_slice Tryd.underlying81 hv
  obtain ⟨n, hn⟩ := h
  obtain ⟨rows, hr, hd⟩ := open_rows (sz := 5) (x := (d, p)) Tryd.underlying81 (by kernel_rfl) (by decide) (by simpa [Value.cells] using hn) (fun el sp e => by
    have e' : d = .slice el sp := e
    have hs' := hs
    rw [e'] at hs'
    have := hs'.len Tryd.underlying81
    rw [hb] at this
    omega)
  rcases hd with ⟨rfl, _⟩ | ⟨el, sp, e, hl, hi⟩
  · exact ⟨[], ⟨[], hr, trivial⟩, by simp, Nat.zero_le _⟩
  · have e' : d = .slice el sp := e
    have hs' := hs
    rw [e'] at hs'
    have hse := fun d' (hd : d' ∈ el) => hs'.elem Tryd.underlying81 hd
    have hle := hs'.len Tryd.underlying81
    rw [hb, hl] at hle
    obtain ⟨al, hal⟩ := all2_of (fun (row : List Value) (a : {a : Opn // a.r.name.length ≤ 140737488351232 ∧ ∀ c ∈ a.r.cols, c.x.length ≤ 140737488351232}) => OpC w row a.1) rows (fun row hrow => by
      obtain ⟨i, hi'⟩ := List.getElem?_of_mem hrow
      obtain ⟨_, n', d', Pl, hdi, hti⟩ := hi i row hi'
      obtain ⟨a, h1, h2⟩ := op_open hti (hse _ (List.mem_of_getElem? hdi))
      exact ⟨⟨a, h2⟩, h1⟩)
    have h2 : All2 (OpC w) rows (al.map (·.1)) := by
      clear hi hse hl hle hr
      induction rows generalizing al with
      | nil => cases al with
        | nil => trivial
        | cons _ _ => exact hal.elim
      | cons p z ih => cases al with
        | nil => exact hal.elim
        | cons a al => exact ⟨hal.1, ih al hal.2⟩
    have hll := h2.length
    refine ⟨al.map (·.1), ⟨rows, hr, h2⟩, fun c hc => ?_, by omega⟩
    obtain ⟨q, _, rfl⟩ := List.mem_map.1 hc
    exact q.2
end
end Go.Proofs.YtgilflkgibfjgaaDoor
namespace Go.Proofs.YtgilflkgibfjgaaDoor
open Go.RowKit
set_option linter.unusedVariables false

/-- A slice of relations that may be written over, and the rows of their columns. -/
def RlW (F : Nat → Prop) (w : World) (a : Option Addr) (n : Nat) (T : List (Option Addr × Nat × Nat)) : Prop :=
  T.length = n ∧ (n = 0 ∨ ∃ g, a = some ⟨g, 0, none⟩ ∧ F g ∧ g < w.heap.size ∧ w.there g 0 (n * 2) ∧ ∀ (i : Nat) (t : Option Addr) (k c : Nat), T[i]? = some (t, k, c) →
    w.cell? ⟨g, i * 2 + 1, none⟩ = some (.slice t k c) ∧ k ≤ 5864062014634 ∧ Wrt (fun q => F q ∧ q ≠ g) w 2 t k)
theorem RlW.setRel {F : Nat → Prop} {w : World} {g n : Nat} {T : List (Option Addr × Nat × Nat)} (h : RlW F w (some ⟨g, 0, none⟩) n T) (i : Nat) (v : Value) : RlW F (w.setCells g (i * 2) [v]) (some ⟨g, 0, none⟩) n T := by
  refine ⟨h.1, h.2.imp id ?_⟩
  rintro ⟨g', hg, hF, hl, ht, he⟩
  injection hg with hg
  injection hg with hg _ _
  subst hg
  refine ⟨g, rfl, hF, Nat.lt_of_lt_of_le hl (size_setCells _ _ _ _), World.there_setCells ht _ _ _, fun j t k c hj => ?_⟩
  obtain ⟨h1, h2, h3⟩ := he j t k c hj
  refine ⟨?_, h2, h3.set _ _ _⟩
  rw [World.cell?_setCells_out g [v] (i * 2) w ⟨g, j * 2 + 1, none⟩ (fun _ _ => by
    simp only [List.length_cons, List.length_nil]
    omega)]
  exact h1
theorem RlW.setOther {F : Nat → Prop} {w : World} {a : Option Addr} {n : Nat} {T : List (Option Addr × Nat × Nat)} (h : RlW F w a n T) {b : Nat} (hb : a ≠ some ⟨b, 0, none⟩) (o : Nat) (vs : List Value) : RlW F (w.setCells b o vs) a n T := by
  refine ⟨h.1, h.2.imp id ?_⟩
  rintro ⟨g, rfl, hF, hl, ht, he⟩
  refine ⟨g, rfl, hF, Nat.lt_of_lt_of_le hl (size_setCells _ _ _ _), World.there_setCells ht _ _ _, fun j t k c hj => ?_⟩
  obtain ⟨h1, h2, h3⟩ := he j t k c hj
  refine ⟨?_, h2, h3.set _ _ _⟩
  have hm : Mod (fun q => q = b) w (w.setCells b o vs) := mod_setCellsQ (F := fun q => q = b) rfl _ _ _
  have hblk := hm.block g hl (fun e => hb (by rw [e]))
  rw [World.cell?_of_block hblk]
  exact h1
theorem RlW.mod {F G : Nat → Prop} {w w' : World} {a : Option Addr} {n : Nat} {T : List (Option Addr × Nat × Nat)} (h : RlW F w a n T) (hm : Mod G w w') (hn : ∀ g, F g → ¬ G g) : RlW F w' a n T := by
  refine ⟨h.1, h.2.imp id ?_⟩
  rintro ⟨g, rfl, hF, hl, ht, he⟩
  have hblk := hm.block g hl (hn g hF)
  refine ⟨g, rfl, hF, Nat.lt_of_lt_of_le hl hm.size, fun j hj => ?_, fun j t k c hj => ?_⟩
  · obtain ⟨h1, h2⟩ := ht j hj
    refine ⟨?_, ?_⟩
    · rw [World.cell?_of_block hblk]; exact h1
    · rw [World.frozen?_of_block hblk]; exact h2
  · obtain ⟨h1, h2, h3⟩ := he j t k c hj
    refine ⟨?_, h2, h3.mod hm (fun g hg => hn g hg.1)⟩
    rw [World.cell?_of_block hblk]
    exact h1
theorem flat2_len : ∀ l : List Col, (l.flatMap Col.cells).length = l.length * 2
  | [] => rfl
  | t :: l => by
    have ih := flat2_len l
    have h4 : t.cells.length = 2 := rfl
    rw [List.flatMap_cons, List.length_append, ih, List.length_cons, h4]
    omega
def sOf : List Value → Option Addr × Nat × Nat
  | [_, .slice t k c] => (t, k, c)
  | _ => (none, 0, 0)
theorem RlW.ofOwn {F Q : Nat → Prop} {w : World} {a : Option Addr} {n c : Nat} {l : List Rln} (h : RelsOwn Q w (.slice a n c) l) (hn : l.length = n) (hs : n ≤ 3518437208780) (hz : ∀ x ∈ l, x.cols.length ≤ 5864062014634) (hF : ∀ g, Q g → F g) : ∃ T, RlW F w a n T := by
  obtain ⟨rows, h1, hq1, h2⟩ := h
  have hl := h2.length
  rw [hn] at h1
  refine ⟨rows.map sOf, by rw [List.length_map]; omega, ?_⟩
  rcases Nat.eq_zero_or_pos n with h0 | h0
  · exact .inl h0
  · have hrl : ∀ x ∈ rows, x.length = 2 := by
      intro x hx
      obtain ⟨_, _, tv, rfl, _⟩ := all2_mem h2 x hx
      rfl
    have hrow : RowAt w (.slice a n c) 2 rows := RowAt.ofOwn h1 (by omega) hrl (by omega)
    have hfl : rows.flatten.length = n * 2 := by
      have : ∀ l : List (List Value), (∀ x ∈ l, x.length = 2) → l.flatten.length = l.length * 2 := by
        intro l
        induction l with
        | nil => intro _; rfl
        | cons x l ih =>
          intro hx
          rw [List.flatten_cons, List.length_append, ih (fun y hy => hx y (List.mem_cons_of_mem _ hy)), hx x List.mem_cons_self, List.length_cons]
          omega
      rw [this rows hrl, hl, hn]
    rcases h1.2 with ⟨h3, _⟩ | ⟨g, cap, cur, hv, hb, hg, _⟩
    · simp only [Value.slice.injEq] at h3
      omega
    · simp only [Value.slice.injEq] at hv
      obtain ⟨rfl, _, rfl⟩ := hv
      have hgl : g < w.heap.size := (Array.getElem?_eq_some_iff.1 hg).1
      refine .inr ⟨g, rfl, hF g (hq1 g rfl), hgl, there_ofOwn h1 hfl, fun i t k c' hT => ?_⟩
      rw [List.getElem?_map] at hT
      obtain ⟨x, hx, hxT⟩ := Option.map_eq_some_iff.1 hT
      have hi := (List.getElem?_eq_some_iff.1 hx).1
      obtain ⟨at_, hat⟩ : ∃ y, l[i]? = some y := ⟨l[i]'(by omega), List.getElem?_eq_getElem (by omega)⟩
      obtain ⟨b', hb', tv, rfl, ho, hq2⟩ := h2.get hat
      rw [hx] at hb'
      simp only [Option.some.injEq] at hb'
      subst hb'
      obtain ⟨t', c'', rfl⟩ := own_sl (show World.ownsRow _ _ _ _ _ _ _ from ho)
      simp only [sOf, Prod.mk.injEq] at hxT
      obtain ⟨rfl, rfl, rfl⟩ := hxT
      obtain ⟨b, off, cap', hv, _, _, _, hc⟩ := hrow.get hx
      simp only [Value.slice.injEq, Option.some.injEq, Addr.mk.injEq, and_true] at hv
      obtain ⟨⟨rfl, rfl⟩, _, _⟩ := hv
      have h5 := hc 1 _ rfl
      rw [Nat.zero_add] at h5
      refine ⟨h5, hz _ (List.mem_of_getElem? hat), Wrt.ofOwn (show World.ownsRow _ _ _ _ _ _ _ from ho) (flat2_len _) ?_⟩
      rintro q rfl hq hBq
      rcases (show World.ownsRow _ _ _ _ _ _ _ from ho).2 with ⟨h6, _⟩ | ⟨g', cap2, cur2, hv2, _, hg2, _⟩
      · simp at h6
      · simp only [Value.slice.injEq, Option.some.injEq, Addr.mk.injEq, and_true, true_and] at hv2
        obtain ⟨rfl, _⟩ := hv2
        refine ⟨hF _ (hq2 q rfl), ?_⟩
        rintro rfl
        rw [hg] at hg2
        simp at hg2
/-- One relation of a slice that may be written over. -/
theorem RlW.at_ {F : Nat → Prop} {w : World} {a : Option Addr} {n i : Nat} {T : List (Option Addr × Nat × Nat)} (h : RlW F w a n T) (hi : i < n) : ∃ g t k c u, a = some ⟨g, 0, none⟩ ∧ F g ∧ g < w.heap.size ∧ T[i]? = some (t, k, c) ∧ w.cell? ⟨g, i * 2, none⟩ = some u ∧ w.frozen? ⟨g, i * 2, none⟩ = false ∧
    w.cell? ⟨g, i * 2 + 1, none⟩ = some (.slice t k c) ∧ k ≤ 5864062014634 ∧ Wrt (fun q => F q ∧ q ≠ g) w 2 t k := by
  obtain ⟨hl, h | ⟨g, rfl, hF, hg, ht, he⟩⟩ := h
  · omega
  · obtain ⟨⟨t, k, c⟩, hT⟩ : ∃ x, T[i]? = some x := ⟨T[i]'(by omega), List.getElem?_eq_getElem (by omega)⟩
    obtain ⟨h1, h2⟩ := ht (i * 2) (by omega)
    rw [Nat.zero_add] at h1 h2
    obtain ⟨u, hu⟩ := Option.isSome_iff_exists.1 h1
    obtain ⟨h3, h4, h5⟩ := he i t k c hT
    exact ⟨g, t, k, c, u, rfl, hF, hg, hT, hu, h2, h3, h4, h5⟩
end Go.Proofs.YtgilflkgibfjgaaDoor
namespace Go.Proofs.YtgilflkgibfjgaaDoor
open Go.RowKit
set_option linter.unusedVariables false

theorem chk_cases (nm : List UInt8) (cs : List Col) :
    (isNameB nm = false → chkC nm cs = 72) ∧
    (isNameB nm = true → ∀ c ∈ cs, isNameB c.x = false → chkC nm cs = 72) ∧
    (isNameB nm = true → (∀ c ∈ cs, isNameB c.x = true) → 5 < cs.length → chkC nm cs = 81) ∧
    (isNameB nm = true → (∀ c ∈ cs, isNameB c.x = true) → ¬ 5 < cs.length → ∀ c ∈ cs, badK c = true → chkC nm cs = 83) ∧
    (isNameB nm = true → (∀ c ∈ cs, isNameB c.x = true) → ¬ 5 < cs.length → (∀ c ∈ cs, badK c = false) → ∀ k : Nat, againI cs = (k : Int) → chkC nm cs = 82) ∧
    (isNameB nm = true → (∀ c ∈ cs, isNameB c.x = true) → ¬ 5 < cs.length → (∀ c ∈ cs, badK c = false) → againI cs = -1 → chkC nm cs = 0) := by
  have hno : (∀ c ∈ cs, isNameB c.x = true) → (cs.any fun c => !isNameB c.x) = false := fun h => List.any_eq_false.2 fun c hc => by rw [h c hc]; decide
  have hkn : (∀ c ∈ cs, badK c = false) → cs.any badK = false := fun h => List.any_eq_false.2 fun c hc => by rw [h c hc]; decide
  unfold chkC
  refine ⟨fun h => by rw [if_pos h], fun h c hc hx => ?_, fun h h1 h2 => ?_, fun h h1 h2 c hc hx => ?_, fun h h1 h2 h3 k hk => ?_, fun h h1 h2 h3 hk => ?_⟩
  · have : (cs.any fun c => !isNameB c.x) = true := List.any_eq_true.2 ⟨c, hc, by rw [hx]; rfl⟩
    rw [if_neg (by rw [h]; decide), if_pos this]
  · rw [if_neg (by rw [h]; decide), if_neg (by rw [hno h1]; decide), if_pos h2]
  · have : cs.any badK = true := List.any_eq_true.2 ⟨c, hc, hx⟩
    rw [if_neg (by rw [h]; decide), if_neg (by rw [hno h1]; decide), if_neg h2, if_pos this]
  · rw [if_neg (by rw [h]; decide), if_neg (by rw [hno h1]; decide), if_neg h2, if_neg (by rw [hkn h3]; decide), if_pos (by rw [hk]; exact Int.natCast_nonneg k)]
  · rw [if_neg (by rw [h]; decide), if_neg (by rw [hno h1]; decide), if_neg h2, if_neg (by rw [hkn h3]; decide), if_neg (by rw [hk]; decide)]

set_option maxHeartbeats 8000000 in
set_option maxRecDepth 100000 in
theorem refCheck_any (w : World) (nm : ByteArray) (v : Value) (cs : List Col) (h : ColsAt w v cs) (hn : nm.size ≤ 140737488355328) (hc : ∀ c ∈ cs, c.x.length ≤ 140737488355328) :
    Calls Tryd.prog 90 #[.agg #[.string nm, v]] w fun e w' => e = .returned (.int .i64 (chkC nm.data.toList cs)) ∧ Below w.heap.size w w' := by
  have hnot : ∀ (x : Bool) (w : World), (Op.unary .not (.bool x)).run Tryd.prog w = .ok (.bool (!x)) w := fun _ _ => rfl
  obtain ⟨q1, q2, q3, q4, q5, q6⟩ := chk_cases nm.data.toList cs
  have hag : againG ((cs.take 0).map (·.x)) (cs.drop 0) 0 = againI cs := rfl
  obtain ⟨ad, cap, rfl, hnc, hcm⟩ := h.form
  have hln := h.len
  have hb0 : Below w.heap.size w (w.alloc (.cells #[.string nm, .slice ad cs.length cap] 64)) := balloc (Below.refl _ _) _
  have HBX := Lib.hid (Blk.new w 64 #[.string nm, .slice ad cs.length cap])
  have HR := Lib.hid (h.keep hb0)
  have HIN := Lib.hid (fun W => refName_any nm W (by omega))
  have HIC := Lib.hid (fun W (c : Col) (hm : c ∈ cs) => refName_any ⟨c.x.toArray⟩ W (by
    have h1 := hc c hm
    have e : (⟨c.x.toArray⟩ : ByteArray).size = c.x.length := by simp [ByteArray.size]
    omega))
  generalize chkC nm.data.toList cs = RES at *
  have HB0 := Lib.hid hb0
  have Q1 := Lib.hid q1
  have Q2 := Lib.hid q2
  have Q3 := Lib.hid q3
  have Q4 := Lib.hid q4
  have Q5 := Lib.hid q5
  have Q6 := Lib.hid q6
  clear h hn hc hb0 q1 q2 q3 q4 q5 q6
  generalize isNameB nm.data.toList = bn at *
  generalize againI cs = AG at *
  have HAG := Lib.hid hag
  clear hag
  obtain ⟨w0, hw0⟩ : ∃ w0, w.alloc (.cells #[.string nm, .slice ad cs.length cap] 64) = w0 := ⟨_, rfl⟩
  unfold maxLen at hcm
  cases bn with
  | false =>
    have hr := Q1.out rfl
    subst hr
    clear hw0
    go_enter Tryd.func90, Tryd.ntmps90
    go_wp2_with fail
    refine (HIN.out _).mono ?_
    rintro e w2 ⟨rfl, rfl⟩
    go_wp2_with fail
    go_ret
    exact ⟨rfl, HB0.out⟩
  | true =>
    generalize hN : cs.length = n at *
    have HN := Lib.hid hN
    clear hN
    rw [hw0] at HBX HR HB0
    have hx1 := HBX.out.cell 1
    simp only [List.getElem?_toArray, List.getElem?_cons_zero, List.getElem?_cons_succ] at hx1
    have hxl := HBX.out.lt
    have HW0 := Lib.hid hw0
    clear hw0
    go_enter Tryd.func90, Tryd.ntmps90
    go_wp2_with fail
    refine (HIN.out _).mono ?_
    rintro e w2 ⟨rfl, rfl⟩
    rw [HW0.out]
    go_wp2_with fail
    go_loop [3] (fun i => ∃ k : Nat, k ≤ n ∧ i = .int .i64 k ∧ Hid (∀ c ∈ cs.take k, isNameB c.x = true)) (fun i => n - (intOf i).toNat)
    case atStart => exact ⟨0, Nat.zero_le _, rfl, Lib.hid (by simp)⟩
    case round =>
      obtain ⟨k, hk, rfl, HP⟩ := hrel
      by_cases hlt : k < n
      · obtain ⟨c, hc⟩ : ∃ c, cs[k]? = some c := ⟨cs[k]'(by rw [HN.out]; exact hlt), List.getElem?_eq_getElem (by rw [HN.out]; exact hlt)⟩
        obtain ⟨tb, to, tcap, htv, _, _, htbl, t0, t1⟩ := ColsAt.get HR.out hc
        simp only [HN.out, Value.slice.injEq, true_and] at htv
        obtain ⟨rfl, rfl⟩ := htv
        have hm := List.mem_of_getElem? hc
        have hic := HIC.out w0 c hm
        have HM := Lib.hid hm
        have hd : decide ((k : Int) < 0) = false := by simp
        have hd2 : decide ((n : Int) ≤ (k : Int)) = false := by simp; omega
        cases hb : isNameB c.x with
        | false =>
          have hr := Q2.out trivial c hm hb
          subst hr
          rw [show isNameB (⟨c.x.toArray⟩ : ByteArray).data.toList = false from hb] at hic
          have HI := Lib.hid hic
          clear hic hm hb hc
          go_wp2_with fail
          refine HI.out.mono ?_
          rintro e w2 ⟨rfl, rfl⟩
          go_wp2_with fail
          go_ret
          exact ⟨rfl, HB0.out⟩
        | true =>
          rw [show isNameB (⟨c.x.toArray⟩ : ByteArray).data.toList = true from hb] at hic
          have HI := Lib.hid hic
          have HP2 : Hid (∀ c ∈ cs.take (k + 1), isNameB c.x = true) := Lib.hid (by
            rw [List.take_add_one, hc]
            intro d hd'
            simp at hd'
            rcases hd' with h1 | rfl
            · exact HP.out d h1
            · exact hb)
          clear hic hm hb hc
          go_wp2_with fail
          refine HI.out.mono ?_
          rintro e w2 ⟨rfl, rfl⟩
          go_wp2_with fail
          go_round
          case rel => exact ⟨k + 1, by omega, by go_num, HP2⟩
          case measure => simp [intOf]; omega
      · obtain rfl : k = n := by omega
        have hall : ∀ c ∈ cs, isNameB c.x = true := by
          have := HP.out
          rwa [List.take_of_length_le (by rw [HN.out]; exact Nat.le_refl _)] at this
        have HALL := Lib.hid hall
        clear hall
        by_cases h5 : 5 < k
        · have hr := Q3.out trivial HALL.out h5
          subst hr
          have hd : (5 : Int) < (k : Int) := by omega
          have hd2 : ¬ ((k : Int) ≤ 5) := by omega
          go_wp2_with fail
          go_ret
          exact ⟨rfl, HB0.out⟩
        · have hd : ¬ ((5 : Int) < (k : Int)) := by omega
          have hd2 : (k : Int) ≤ 5 := by omega
          have H5 := Lib.hid h5
          clear h5
          go_wp2_with fail
          go_loop [4] (fun i => ∃ j : Nat, j ≤ k ∧ i = .int .i64 j ∧ Hid (∀ c ∈ cs.take j, badK c = false)) (fun i => k - (intOf i).toNat)
          case atStart => exact ⟨0, Nat.zero_le _, rfl, Lib.hid (by simp)⟩
          case round =>
            obtain ⟨j, hj, rfl, HP2⟩ := hrel
            by_cases hlt2 : j < k
            · obtain ⟨c, hc⟩ : ∃ c, cs[j]? = some c := ⟨cs[j]'(by rw [HN.out]; exact hlt2), List.getElem?_eq_getElem (by rw [HN.out]; exact hlt2)⟩
              obtain ⟨tb, to, tcap, htv, _, _, htbl, t0, t1⟩ := ColsAt.get HR.out hc
              simp only [HN.out, Value.slice.injEq, true_and] at htv
              obtain ⟨rfl, rfl⟩ := htv
              have hm := List.mem_of_getElem? hc
              have hdj : decide ((j : Int) < 0) = false := by simp
              have hdj2 : decide ((k : Int) ≤ (j : Int)) = false := by simp; omega
              have hgood : c.k = 1 ∨ c.k = 2 → Hid (∀ c ∈ cs.take (j + 1), badK c = false) := fun hk => Lib.hid (by
                rw [List.take_add_one, hc]
                intro d hd'
                simp at hd'
                rcases hd' with h1 | rfl
                · exact HP2.out d h1
                · unfold badK
                  rcases hk with hk | hk <;> simp [hk])
              by_cases hk1 : c.k = 1
              · have q1 : (c.k != 1) = false := by simp [hk1]
                have HP3 := hgood (.inl hk1)
                clear hgood hm hc hk1
                go_wp2_with fail
                go_round
                case rel => exact ⟨j + 1, by omega, by go_num, HP3⟩
                case measure => simp [intOf]; omega
              · have q1 : (c.k != 1) = true := by simpa using hk1
                by_cases hk2 : c.k = 2
                · have q2 : (c.k != 2) = false := by simp [hk2]
                  have HP3 := hgood (.inr hk2)
                  clear hgood hm hc hk1 hk2
                  go_wp2_with fail
                  go_round
                  case rel => exact ⟨j + 1, by omega, by go_num, HP3⟩
                  case measure => simp [intOf]; omega
                · have q2 : (c.k != 2) = true := by simpa using hk2
                  have hr := Q4.out trivial HALL.out H5.out c hm (by unfold badK; simp [hk1, hk2])
                  subst hr
                  clear hgood hm hc hk1 hk2
                  go_wp2_with fail
                  go_ret
                  exact ⟨rfl, HB0.out⟩
            · obtain rfl : j = k := by omega
              have hallk : ∀ c ∈ cs, badK c = false := by
                have := HP2.out
                rwa [List.take_of_length_le (by rw [HN.out]; exact Nat.le_refl _)] at this
              have HALLK := Lib.hid hallk
              clear hallk HP2
              go_wp2_with fail
              go_loopw [5] (fun i wr => ∃ m : Nat, m ≤ j ∧ i = .int .i64 m ∧ Hid (againG ((cs.take m).map (·.x)) (cs.drop m) m = AG) ∧ Hid (Below w0.heap.size w0 wr)) (fun i _ => j - (intOf i).toNat)
              case atStart => exact ⟨0, Nat.zero_le _, rfl, HAG, Lib.hid (Below.refl _ _)⟩
              case round =>
                obtain ⟨m, hm, rfl, HG, BW⟩ := hrel
                obtain ⟨wo, rfl⟩ : ∃ wo : World, wo = wr := ⟨_, rfl⟩
                have xo := (BW.out.cell (p := ⟨w.heap.size, 1, none⟩) hxl).trans hx1
                have xol : w.heap.size < wo.heap.size := Nat.lt_of_lt_of_le hxl BW.out.size
                by_cases hlt3 : m < j
                · obtain ⟨c, hc⟩ : ∃ c, cs[m]? = some c := ⟨cs[m]'(by rw [HN.out]; exact hlt3), List.getElem?_eq_getElem (by rw [HN.out]; exact hlt3)⟩
                  have HC := Lib.hid hc
                  clear hc
                  go_wp2_with fail
                  go_loopw [6] (fun i wr => ∃ j2 : Nat, j2 ≤ m ∧ i = .int .i64 j2 ∧ Hid (c.x ∉ (cs.take j2).map (·.x)) ∧ Hid (Below w0.heap.size w0 wr)) (fun i _ => m - (intOf i).toNat)
                  case atStart => exact ⟨0, Nat.zero_le _, rfl, Lib.hid (by simp), BW⟩
                  case round =>
                    obtain ⟨j2, hj2, rfl, HNI, BW2⟩ := hrel
                    have xr := (BW2.out.cell (p := ⟨w.heap.size, 1, none⟩) hxl).trans hx1
                    have xrl : w.heap.size < wr.heap.size := Nat.lt_of_lt_of_le hxl BW2.out.size
                    by_cases hlt4 : j2 < m
                    · obtain ⟨d, hd0⟩ : ∃ d, cs[j2]? = some d := ⟨cs[j2]'(by rw [HN.out]; omega), List.getElem?_eq_getElem (by rw [HN.out]; omega)⟩
                      obtain ⟨tb, to, tcap, htv, _, _, htbl, t0, t1⟩ := (ColsAt.keep HR.out BW2.out).get HC.out
                      simp only [HN.out, Value.slice.injEq, true_and] at htv
                      obtain ⟨rfl, rfl⟩ := htv
                      obtain ⟨ub, uo, ucap, huv, _, _, hubl, u0, u1⟩ := (ColsAt.keep HR.out BW2.out).get hd0
                      simp only [HN.out, Value.slice.injEq, Option.some.injEq, Addr.mk.injEq, true_and, and_true] at huv
                      obtain ⟨⟨rfl, rfl⟩, rfl⟩ := huv
                      have hdm : decide ((m : Int) < 0) = false := by simp
                      have hdm2 : decide ((j : Int) ≤ (m : Int)) = false := by simp; omega
                      have hdk : decide ((j2 : Int) < 0) = false := by simp
                      have hdk2 : decide ((j : Int) ≤ (j2 : Int)) = false := by simp; omega
                      by_cases he : c.x = d.x
                      · have q1 : (c.x == d.x) = true := by rw [he]; exact beq_self_eq_true _
                        have hmem : c.x ∈ (cs.take m).map (·.x) := by
                          rw [he]
                          refine List.mem_map.2 ⟨d, ?_, rfl⟩
                          rw [List.mem_take_iff_getElem]
                          exact ⟨j2, by rw [HN.out]; omega, (List.getElem?_eq_some_iff.1 hd0).2⟩
                        have hg := HG.out
                        rw [again_hit HC.out hmem] at hg
                        have hr := Q5.out trivial HALL.out H5.out HALLK.out m hg.symm
                        subst hr
                        clear hmem hg he hd0
                        go_wp2_with fail
                        go_quiet (fail)
                        go_wp2_with fail
                        go_ret
                        exact ⟨rfl, HB0.out.trans ((bdrewN BW2.out _).mono HB0.out.size)⟩
                      · have q1 : (c.x == d.x) = false := by simpa using he
                        have HNI2 : Hid (c.x ∉ (cs.take (j2 + 1)).map (·.x)) := Lib.hid (by
                          rw [List.take_add_one, hd0]
                          intro h1
                          simp only [Option.toList_some, List.map_append, List.map_cons, List.map_nil, List.mem_append, List.mem_singleton] at h1
                          rcases h1 with h1 | h1
                          · exact HNI.out h1
                          · exact he h1)
                        clear he hd0
                        go_wp2_with fail
                        go_quiet (fail)
                        go_wp2_with fail
                        go_roundw
                        case rel => exact ⟨j2 + 1, by omega, by go_num, HNI2, Lib.hid (bdrewN BW2.out _)⟩
                        case measure => simp [intOf]; omega
                    · obtain rfl : j2 = m := by omega
                      have hg := HG.out
                      rw [again_step HC.out HNI.out] at hg
                      have HG2 := Lib.hid hg
                      clear hg
                      go_wp2_with fail
                      go_roundw
                      case rel => exact ⟨j2 + 1, by omega, by go_num, HG2, BW2⟩
                      case measure => simp [intOf]; omega
                · obtain rfl : m = j := by omega
                  have hg := HG.out
                  rw [List.drop_of_length_le (by rw [HN.out]; exact Nat.le_refl _)] at hg
                  unfold againG at hg
                  have hr := Q6.out trivial HALL.out H5.out HALLK.out hg.symm
                  subst hr
                  clear hg
                  go_wp2_with fail
                  go_ret
                  exact ⟨rfl, HB0.out.trans (BW.out.mono HB0.out.size)⟩
end Go.Proofs.YtgilflkgibfjgaaDoor
namespace Go.Proofs.YtgilflkgibfjgaaDoor
open Go.RowKit
set_option linter.unusedVariables false

set_option maxHeartbeats 8000000 in
set_option maxRecDepth 100000 in
theorem sall_any {Q : Nat → Prop} (w : World) (b : Nat) (m : Int) (d : List Rln) (h : SchAt Q w b m d) :
    Calls Tryd.prog 47 #[.pointer (some ⟨b, 0, none⟩)] w fun e w' => ∃ a cp, e = .returned (.slice a d.length cp) ∧ RelsNew w.heap.size w' (.slice a d.length cp) d ∧ Below w.heap.size w w' := by
  obtain ⟨ic, hic, hc0, hc1, hc2⟩ := info_parts Tryd.infoRl
  obtain ⟨sv, hb, ho, hs⟩ := h
  have hat := hs.at ho
  have hd8 := hs.1
  have hd5 := hs.2
  obtain ⟨ad, cap, rfl, hnc, hcm⟩ := hat.form
  unfold maxLen at hcm
  have hx1 := hb.cell 1
  have hxl := hb.lt
  simp only [List.getElem?_toArray, List.getElem?_cons_zero, List.getElem?_cons_succ] at hx1
  have HR := Lib.hid hat
  have HBB := Lib.hid hb
  have H5 := Lib.hid hd5
  clear hb ho hs hat hd5
  generalize hN : d.length = n at *
  have HN := Lib.hid hN
  clear hN
  go_enter Tryd.func47, Tryd.ntmps47
  go_wp2_with (at_make; refine wpList_make_full _ rfl _ _ 74 rfl w.heap.size 64 ic (.agg #[.string ⟨#[]⟩, .slice none 0 0]) 2 Tryd.underlying74 hic hc0 hc1 _ _ _ _ n rfl rfl rfl rfl ?b2 ?b3 ?b4 ?_)
  case b2 => first | omega | (rw [hc2]; omega)
  case b3 => unfold maxLen; omega
  try (case b4 => omega)
  intro w5 hown5 hgrow5
  obtain ⟨rows0, hr0, hr1, hr2⟩ := split_rows 2 n _ hown5.1
  rw [← hr2] at hown5
  have hb5 : Below w.heap.size w w5 := Below.grown (Below.refl _ _) hgrow5 (Nat.le_refl _) (fun q hq => by cases hq)
  have hy := HBB.out.below hb5 HBB.out.lt
  have y1 := hy.cell 1
  have yl := hy.lt
  simp only [List.getElem?_toArray, List.getElem?_cons_zero, List.getElem?_cons_succ] at y1
  have HO5 := Lib.hid hown5
  have HB5 := Lib.hid hb5
  have HRL := Lib.hid (And.intro hr0 hr1)
  clear hown5 hgrow5 hb5 hr0 hr1 hr2 hy hx1 hxl
  go_wp2_with fail
  clear y1 yl
  go_loopw [17] (fun i wr => ∃ (k : Nat) (rows : List (List Value)), k ≤ n ∧ i = .int .i64 k ∧ Hid (wr.ownsRow w.heap.size 64 2 (.slice (some ⟨w.heap.size, 0, none⟩) n n) n rows.flatten) ∧ Hid (rows.length = n ∧ ∀ x ∈ rows, x.length = 2) ∧ Hid (All2 (RelO (fun q => w.heap.size < q) wr) (rows.take k) (d.take k)) ∧ Hid (Below w.heap.size w wr)) (fun i _ => n - (intOf i).toNat)
  case atStart => exact ⟨0, rows0, Nat.zero_le _, rfl, HO5, HRL, Lib.hid trivial, HB5⟩
  case round =>
    obtain ⟨k, rows, hk, rfl, OW, RL, AL, BW⟩ := hrel
    obtain ⟨wo, rfl⟩ : ∃ wo : World, wo = wr := ⟨_, rfl⟩
    by_cases hkn : k < n
    · obtain ⟨c, hc⟩ : ∃ c, d[k]? = some c := ⟨d[k]'(by rw [HN.out]; exact hkn), List.getElem?_eq_getElem (by rw [HN.out]; exact hkn)⟩
      obtain ⟨rb, off, cap', cv, hv, _, _, hbl, q0, q1, hrow, hrl⟩ := (HR.out.keep BW.out).get hc
      rw [HN.out] at hv
      simp only [Value.slice.injEq, true_and] at hv
      obtain ⟨rfl, rfl⟩ := hv
      obtain ⟨ra, rc, rfl, _, _⟩ := hrow.form
      have hdk : decide ((k : Int) < 0) = false := by simp
      have hdn : decide ((n : Int) ≤ (k : Int)) = false := by simp; omega
      have hbk : Below wo.heap.size wo (wo.alloc (.cells #[.string ⟨c.name.toArray⟩, .slice ra c.cols.length rc] 64)) := balloc (Below.refl _ _) _
      have hcr := sclone_any (wo.alloc (.cells #[.string ⟨c.name.toArray⟩, .slice ra c.cols.length rc] 64)) ⟨c.name.toArray⟩ (.slice ra c.cols.length rc) c.cols (hrow.keep hbk) hrl
      have HCR := Lib.hid hcr
      have HCC := Lib.hid hc
      have HBK := Lib.hid hbk
      have hbw := BW.out.size
      have hgo : w.heap.size < wo.heap.size := (World.ownsRow.lt OW.out w.heap.size rfl).2
      clear hc hrow hcr hbk
      generalize hCN : c.cols.length = rn at *
      have HCN := Lib.hid hCN
      clear hCN
      go_wp2_with fail
      refine HCR.out.mono ?_
      rintro e w6 ⟨u6, rfl, hown6, hb6⟩
      have hlow : w6.ownsRow 0 72 2 u6 c.cols.length (c.cols.flatMap Col.cells) := World.ownsRow.low hown6 (Nat.zero_le _)
      have hq6 : ∀ q, u6.ownBlock = some q → w.heap.size < q := fun q hq => by
        have := (World.ownsRow.lt (show World.ownsRow _ _ _ _ _ _ _ from hown6) q hq).1
        simp at this
        omega
      obtain ⟨ua, uc, rfl⟩ := own_sl (show World.ownsRow _ _ _ _ _ _ _ from hown6)
      have hb66 := bt2 HBK.out hb6
      have o6 := (MT.ofBelow (B := 0) (Ts := []) hb66).ownsRow OW.out (by simp)
      have HO6 := Lib.hid o6
      have HW6 := Lib.hid hlow
      have HQ6 := Lib.hid hq6
      have HB6 := Lib.hid hb66
      clear o6 hown6 hb6 hlow hq6 hb66
      rw [HCN.out] at HW6 HQ6 ⊢
      go_wp2_with (refine wpList_store_elem rfl 64 _ _ rfl w.heap.size k 64 2 w.heap.size n n rows _ rfl rfl HO6.out RL.out.2 RL.out.1 hkn rfl (by kernel_rfl) (by simp [Value.oneCell']) ?_)
      intro w7 h7 m7 z7
      have hall : ∀ W', Mod (fun j => j = w.heap.size) w6 W' → All2 (RelO (fun q => w.heap.size < q) W') ((rows.set k [.string ⟨c.name.toArray⟩, .slice ua rn uc]).take (k + 1)) (d.take (k + 1)) := by
        intro W' m6
        rw [set_take (by rw [RL.out.1]; exact hkn), List.take_add_one, HCC.out]
        refine All2.snoc ⟨_, rfl, ?_, fun q hq => HQ6.out q hq⟩ (AL.out.mono fun q a hh => (hh.mod (Mod.ofBelow (F := fun _ => False) HB6.out) (fun _ _ f => f)).mod m6 (fun q hq => by omega))
        show World.ownsRow _ _ _ _ _ _ _
        rw [HCN.out]
        exact m6.ownsRow HW6.out (fun q hq => by have := HQ6.out q hq; omega)
      have HS := Lib.hid h7
      have HAL := Lib.hid (hall _ m7)
      have HB7 := Lib.hid (Mod.own (BW.out.trans (HB6.out.mono hbw)) m7 (Nat.le_refl _))
      clear h7 m7 z7 hall
      go_wp2_with fail
      go_roundw
      case rel => exact ⟨k + 1, _, by omega, by go_num, HS, Lib.hid ⟨by rw [List.length_set]; exact RL.out.1, set_all RL.out.2 rfl⟩, HAL, HB7⟩
      case measure => simp [intOf]; omega
    · obtain rfl : k = n := by omega
      have hal := AL.out
      rw [List.take_of_length_le (by rw [RL.out.1]; exact Nat.le_refl _), List.take_of_length_le (by rw [HN.out]; exact Nat.le_refl _)] at hal
      have HAL := Lib.hid hal
      clear hal
      go_wp2_with fail
      go_ret
      exact ⟨_, _, rfl, ⟨rows, by rw [HN.out]; exact World.ownsRow.low OW.out (Nat.zero_le _), fun q hq => by simp [Value.ownBlock] at hq; omega, HAL.out.mono fun b a hh => hh.mono fun q _ hq => Nat.le_of_lt hq⟩, BW.out⟩

/-- What the document's Add leaves. -/
def RAddP (w : World) (m : Int) (dv : Value) (d : List Rln) (r : Rln) (e : Ending) (w' : World) : Prop :=
  ∃ v', e = .returned (.tuple #[v', .int .i64 (addE m d r)]) ∧ ((addE m d r ≠ 0 ∧ v' = dv) ∨ (addE m d r = 0 ∧ RelsNew w.heap.size w' v' (d ++ [r]))) ∧ Below w.heap.size w w'

theorem plI_has {d : List Rln} {x : List UInt8} (h : x ∈ d.map (·.name)) : 0 ≤ plI d x := by
  unfold plI idxI
  rw [if_pos h]
  omega
theorem plI_not {d : List Rln} {x : List UInt8} (h : x ∉ d.map (·.name)) : plI d x = -1 := idxI_miss h
/-- The list behind the append. -/
theorem radd_end {w w1 w6 wi : World} {g cap : Nat} {m : Int} {d : List Rln} {nm : ByteArray} {cs : List Col} {ca : Option Addr} {cc : Nat} {va6 : Option Addr} {vc6 : Nat} {dv : Value} {rows : List (List Value)}
    (hR : w1.ownsRow 0 64 2 (.slice ca d.length cc) d.length rows.flatten) (hq : InQ (fun q => w.heap.size ≤ q) (.slice ca d.length cc)) (hA : All2 (RelO (fun q => w.heap.size ≤ q) w1) rows d) (hb1 : Below w.heap.size w w1) (hb6 : Below w1.heap.size w1 w6)
    (ho : w6.ownsRow w1.heap.size 72 2 (.slice va6 cs.length vc6) cs.length (cs.map Col.cells).flatten)
    (hown : wi.ownsRow 0 64 2 (.slice (some ⟨g, 0, none⟩) (d.length + 1) cap) (d.length + 1) (rows.flatten ++ [.string nm, .slice va6 cs.length vc6])) (hg : (w6.alloc (.cells #[.string nm, .slice va6 cs.length vc6] 64)).grownBy wi (Value.slice ca d.length cc).ownBlock)
    (hat : (Value.slice ca d.length cc).ownBlock = some g ∨ g = (w6.alloc (.cells #[.string nm, .slice va6 cs.length vc6] 64)).heap.size) (hE : addE m d ⟨nm.data.toList, cs⟩ = 0) :
    RAddP w m dv d ⟨nm.data.toList, cs⟩ (.returned (.tuple #[.slice (some ⟨g, 0, none⟩) (d.length + 1) cap, .int .i64 0])) wi := by
  have hnm : (⟨nm.data.toList.toArray⟩ : ByteArray) = nm := by simp
  have m16 : MT 0 [] w1 w6 := MT.ofBelow hb6
  have hR6 := m16.ownsRow hR (by simp)
  have mi : MT 0 [64] w6 wi := ((MT.refl w6).alloc _).grown hg (hR6.alloc _) (by simp) (Nat.zero_le _)
  have hs1 := hb1.size
  have hs6 := hb6.size
  have hmod : Mod (fun k => w.heap.size ≤ k) w6 wi := ((Mod.refl _ w6).alloc _).grown hg (fun k hk _ => hq k hk)
  refine ⟨_, by rw [hE], .inr ⟨hE, ⟨rows ++ [[.string nm, .slice va6 cs.length vc6]], ?_, ?_, ?_⟩⟩, (bt2 hb1 hb6).trans (hmod.below (by omega) (fun i hi => hi))⟩
  · rw [List.flatten_append, List.length_append]
    simpa using hown
  · intro k hk
    simp [Value.ownBlock] at hk
    subst hk
    rcases hat with h | h
    · exact hq _ h
    · rw [h]
      simp
      omega
  · refine All2.snoc ⟨_, by rw [hnm], ?_, fun k hk => ?_⟩ (hA.mono fun row a h => ((h.mt m16 (by decide)).mt mi (by decide)))
    · show World.ownsRow _ _ _ _ _ _ _
      rw [← cols_flat]
      exact mi.ownsRow (World.ownsRow.low ho (Nat.zero_le _)) (by decide)
    · have := (World.ownsRow.lt ho k hk).1
      omega

set_option maxHeartbeats 16000000 in
set_option maxRecDepth 100000 in
theorem refAdd_any (w : World) (dv : Value) (m : Int) (d : List Rln) (nm : ByteArray) (v : Value) (cs : List Col) (hd : RelsAt w dv d) (hd8 : d.length ≤ 8) (hcs : ColsAt w v cs) (hl : cs.length ≤ 5864062014634) (hn : nm.size ≤ 140737488355328) (hc : ∀ c ∈ cs, c.x.length ≤ 140737488355328) :
    Calls Tryd.prog 42 #[dv, .int .i64 m, .agg #[.string nm, v]] w (RAddP w m dv d ⟨nm.data.toList, cs⟩) := by
  obtain ⟨ir, hir, hr0, hr1, hr2⟩ := info_parts Tryd.infoRl
  obtain ⟨W0, hW0⟩ : ∃ W0, w.alloc (.cells #[.string nm, v] 64) = W0 := ⟨_, rfl⟩
  have hb0 : Below w.heap.size w W0 := by rw [← hW0]; exact balloc (Below.refl _ _) _
  have hbx : Blk W0 w.heap.size 64 #[.string nm, v] := by rw [← hW0]; exact Blk.new _ _ _
  have HCH := Lib.hid (refCheck_any W0 nm v cs (hcs.keep hb0) hn hc)
  have HB0 := Lib.hid hb0
  have HBX := Lib.hid hbx
  have HCS := Lib.hid (hcs.keep hb0)
  have HD0 := Lib.hid (hd.keep hb0)
  have HW0 := Lib.hid hW0
  have HEK := Lib.hid (fun (hk : chkC nm.data.toList cs ≠ 0) => addE_chk (m := m) (d := d) (r := ⟨nm.data.toList, cs⟩) hk)
  have HET := Lib.hid (fun (hk : chkC nm.data.toList cs = 0) (h2 : nm.data.toList ∈ d.map (·.name)) => addE_taken (m := m) (d := d) (r := ⟨nm.data.toList, cs⟩) hk h2)
  have HEF := Lib.hid (fun (hk : chkC nm.data.toList cs = 0) (h2 : nm.data.toList ∉ d.map (·.name)) (h3 : m ≤ d.length) => addE_full (r := ⟨nm.data.toList, cs⟩) hk h2 h3)
  have HEO := Lib.hid (fun (hk : chkC nm.data.toList cs = 0) (h2 : nm.data.toList ∉ d.map (·.name)) (h3 : ¬ m ≤ d.length) => addE_ok (r := ⟨nm.data.toList, cs⟩) hk h2 h3)
  have HPL := Lib.hid (fun W (hW : Below W0.heap.size W0 W) => refPlace_any W dv d nm (HD0.out.keep hW))
  have hpi := plI_has (d := d) (x := nm.data.toList)
  have hpn := plI_not (d := d) (x := nm.data.toList)
  have HPI := Lib.hid hpi
  have HPN := Lib.hid hpn
  obtain ⟨va, vc, rfl, _, _⟩ := hcs.form
  obtain ⟨da, dc, rfl, _, hdm⟩ := hd.form
  unfold maxLen at hdm
  clear hb0 hbx hW0 hcs hc hd hpi hpn
  generalize hck : chkC nm.data.toList cs = ck at *
  have HCK := Lib.hid hck
  clear hck
  have hsame : ∀ (w' : World) (n : Int), n ≠ 0 → addE m d ⟨nm.data.toList, cs⟩ = n → Below w.heap.size w w' → RAddP w m (.slice da d.length dc) d ⟨nm.data.toList, cs⟩ (.returned (.tuple #[.slice da d.length dc, .int .i64 n])) w' := by
    intro w' n h0 he hb
    exact ⟨_, by rw [he], .inl ⟨by rw [he]; exact h0, rfl⟩, hb⟩
  have HSAME := Lib.hid hsame
  clear hsame
  by_cases hk0 : ck = 0
  · have q0 : (ck != 0) = false := by simp [hk0]
    have HK0 := Lib.hid hk0
    clear hk0
    by_cases hm' : nm.data.toList ∈ d.map (·.name)
    · have he := HET.out HK0.out hm'
      have hp := HPI.out hm'
      have q1 : decide (0 ≤ plI d nm.data.toList) = true := by simpa using hp
      have HE := Lib.hid he
      clear he hp hm'
      generalize plI d nm.data.toList = pl at *
      generalize d.length = dn at *
      go_enter Tryd.func42, Tryd.ntmps42
      go_wp2_with fail
      rw [HW0.out]
      refine HCH.out.mono ?_
      rintro e w1 ⟨rfl, hb1⟩
      have hbx1 := HBX.out.below hb1 HBX.out.lt
      have x0 := hbx1.cell 0
      have xl := hbx1.lt
      simp only [List.getElem?_toArray, List.getElem?_cons_zero] at x0
      have HB1 := Lib.hid hb1
      clear hbx1 hb1 HCH
      go_wp2_with fail
      refine (HPL.out w1 HB1.out).mono ?_
      rintro e w2 ⟨rfl, hb2⟩
      have HB2 := Lib.hid (bt2 HB1.out hb2)
      clear hb2
      go_wp2_with fail
      go_ret2
      exact HSAME.out _ 85 (by decide) HE.out (HB0.out.trans (HB2.out.mono HB0.out.size))
    · have hp := HPN.out hm'
      have q1 : decide (0 ≤ plI d nm.data.toList) = false := by rw [hp]; rfl
      have HNM := Lib.hid hm'
      clear hp hm'
      generalize plI d nm.data.toList = pl at *
      generalize hdn : d.length = dn at *
      have HDN := Lib.hid hdn
      clear hdn
      by_cases hfull : m ≤ (dn : Int)
      · have q2 : decide (m ≤ (dn : Int)) = true := by simpa using hfull
        have he := HEF.out HK0.out HNM.out hfull
        have HE := Lib.hid he
        clear he hfull
        go_enter Tryd.func42, Tryd.ntmps42
        go_wp2_with fail
        rw [HW0.out]
        refine HCH.out.mono ?_
        rintro e w1 ⟨rfl, hb1⟩
        have hbx1 := HBX.out.below hb1 HBX.out.lt
        have x0 := hbx1.cell 0
        have xl := hbx1.lt
        simp only [List.getElem?_toArray, List.getElem?_cons_zero] at x0
        have HB1 := Lib.hid hb1
        clear hbx1 hb1 HCH
        go_wp2_with fail
        refine (HPL.out w1 HB1.out).mono ?_
        rintro e w2 ⟨rfl, hb2⟩
        have HB2 := Lib.hid (bt2 HB1.out hb2)
        clear hb2
        go_wp2_with fail
        go_ret2
        exact HSAME.out _ 84 (by decide) HE.out (HB0.out.trans (HB2.out.mono HB0.out.size))
      · have q2 : decide (m ≤ (dn : Int)) = false := by simpa using hfull
        have he := HEO.out HK0.out HNM.out hfull
        have HE := Lib.hid he
        clear he hfull
        go_enter Tryd.func42, Tryd.ntmps42
        go_wp2_with fail
        rw [HW0.out]
        refine HCH.out.mono ?_
        rintro e w1 ⟨rfl, hb1⟩
        have hbx1 := HBX.out.below hb1 HBX.out.lt
        have x0 := hbx1.cell 0
        have xl := hbx1.lt
        simp only [List.getElem?_toArray, List.getElem?_cons_zero] at x0
        have HB1 := Lib.hid hb1
        clear hbx1 hb1 HCH
        go_wp2_with fail
        refine (HPL.out w1 HB1.out).mono ?_
        rintro e w2 ⟨rfl, hb2⟩
        have hb2' := bt2 HB1.out hb2
        have hbx2 := HBX.out.below hb2' HBX.out.lt
        have y0 := hbx2.cell 0
        have y1 := hbx2.cell 1
        have yl := hbx2.lt
        simp only [List.getElem?_toArray, List.getElem?_cons_zero, List.getElem?_cons_succ] at y0 y1
        have HB2 := Lib.hid hb2'
        have HBX2 := Lib.hid hbx2
        clear hb2 hb2' hbx2 x0 xl
        have HCAL := Lib.hid (fun W (hW : Below w2.heap.size w2 W) => copyRels_any W (.slice da dn dc) d (HD0.out.keep (bt2 HB2.out hW)) (by rw [HDN.out]; omega))
        have HCPY := Lib.hid (fun W (hW : Below w2.heap.size w2 W) => copyRel_any W nm (.slice va cs.length vc) cs (ColsAt.keep HCS.out (bt2 HB2.out hW)) hl)
        go_wp2_with fail
        go_region_law (first
          | (go_simp; go_at_call 40; refine (HCAL.out _ (bdrew (Below.refl _ w2))).mono ?_; rintro e w3 ⟨v3, rfl, hown3, hb3⟩; obtain ⟨rows3, hr3, hq3, ha3⟩ := hown3; rw [HDN.out] at hr3; obtain ⟨ca, cc, rfl⟩ := own_sl hr3; have B3 : Below w2.heap.size w2 w3 := bt2 (bdrew (Below.refl _ w2)) hb3; have bx3 := HBX2.out.below B3 HBX2.out.lt; have z0 := bx3.cell 0; have z1 := bx3.cell 1; have zl := bx3.lt; simp only [List.getElem?_toArray, List.getElem?_cons_zero, List.getElem?_cons_succ] at z0 z1; have HR3 := Lib.hid hr3; have HQ3 := Lib.hid hq3; have HA3 := Lib.hid ha3; have HB3 := Lib.hid B3; clear B3 hb3 bx3 hr3 hq3 ha3)
          | (go_simp; go_at_call 36; refine (HCPY.out w3 HB3.out).mono ?_; rintro e w6 ⟨u6, rfl, hown6, hb6⟩; obtain ⟨va6, vc6, rfl⟩ := own_sl hown6; have HJ6 := Lib.hid ((MT.ofBelow (Ts := []) (B := 0) hb6).ownsRow HR3.out (by simp)); have HB6 := Lib.hid hb6; have HO6 := Lib.hid hown6; clear hown6 hb6)
          | (refine step_append_lies _ rfl (.tmp 27) (.tmp 30) 74 rfl 0 64 ir (.agg #[.string ⟨#[]⟩, .slice none 0 0]) 2 40 Tryd.underlying74 hir hr0 hr1 hr2 rfl (by decide) (.slice ca dn cc) dn _ rfl (HJ6.out.alloc _) ⟨_, 0, none⟩ 1 1 [.string nm, .slice va6 cs.length vc6] rfl rfl (World.news_of_block (Blk.new _ _ _)) (by simp [Value.oneCell']) (by decide) (by unfold maxLen; omega) (by omega) (Nat.zero_le _) _ rfl ?_; intro g3 cap3 wi hown3 hgrow3 hat3 hlt3))
        all_goals
          have hend := radd_end (w := w2) (dv := .slice da dn dc) (by rw [HDN.out]; exact HR3.out) (by rw [HDN.out]; exact fun q hq => HQ3.out q hq) (HA3.out) HB3.out HB6.out HO6.out (by rw [HDN.out]; exact hown3) (by rw [HDN.out]; exact hgrow3) (by rw [HDN.out]; exact hat3) HE.out
          rw [HDN.out] at hend
          have HEND := Lib.hid hend
          clear hend hown3 hgrow3 hat3
          go_wp2_with fail
          go_ret2
          obtain ⟨v9, h9, h8, h7⟩ := HEND.out
          have hs2 : w.heap.size ≤ w2.heap.size := (HB0.out.trans (HB2.out.mono HB0.out.size)).size
          refine ⟨v9, h9, ?_, (HB0.out.trans (HB2.out.mono HB0.out.size)).trans (h7.mono hs2)⟩
          rcases h8 with h8 | ⟨h8, h10⟩
          · exact absurd HE.out h8.1
          · exact .inr ⟨h8, h10.mono fun q _ hq => Nat.le_trans hs2 hq⟩
  · have q0 : (ck != 0) = true := by simpa using hk0
    have he := HEK.out hk0
    have HE := Lib.hid he
    have HK0 := Lib.hid hk0
    clear hk0 he
    generalize d.length = dn at *
    go_enter Tryd.func42, Tryd.ntmps42
    go_wp2_with fail
    rw [HW0.out]
    refine HCH.out.mono ?_
    rintro e w1 ⟨rfl, hb1⟩
    have HB1 := Lib.hid (HB0.out.trans (hb1.mono HB0.out.size))
    clear hb1 HCH
    go_wp2_with fail
    go_ret2
    exact HSAME.out _ ck HK0.out (by rw [HE.out]) HB1.out

set_option maxHeartbeats 8000000 in
set_option maxRecDepth 100000 in
theorem sameRels_any (w : World) (va vb : Value) (l : List Rln) (ha : RelsAt w va l) (hb : RelsAt w vb l) :
    Calls Tryd.prog 48 #[va, vb] w fun e w' => e = .returned (.bool true) ∧ Below w.heap.size w w' := by
  have hnot : ∀ (x : Bool) (w : World), (Op.unary .not (.bool x)).run Tryd.prog w = .ok (.bool (!x)) w := fun _ _ => rfl
  obtain ⟨aa, ac, rfl, hac, ham⟩ := ha.form
  obtain ⟨ba, bc, rfl, hbc, hbm⟩ := hb.form
  have hla := ha.len
  unfold maxLen at ham hbm
  have HA := Lib.hid ha
  have HB := Lib.hid hb
  clear ha hb
  generalize hN : l.length = n at *
  have HN := Lib.hid hN
  clear hN
  have hnn : ((n : Int) != (n : Int)) = false := by simp
  go_enter Tryd.func48, Tryd.ntmps48
  go_wp2_with fail
  go_loopw [13] (fun i wr => ∃ k : Nat, k ≤ n ∧ i = .int .i64 k ∧ Hid (Below w.heap.size w wr)) (fun i _ => n - (intOf i).toNat)
  case atStart => exact ⟨0, Nat.zero_le _, rfl, Lib.hid (Below.refl _ _)⟩
  case round =>
    obtain ⟨k, hk, rfl, BW⟩ := hrel
    obtain ⟨wo, rfl⟩ : ∃ wo : World, wo = wr := ⟨_, rfl⟩
    by_cases hlt : k < n
    · obtain ⟨c, hc⟩ : ∃ c, l[k]? = some c := ⟨l[k]'(by rw [HN.out]; exact hlt), List.getElem?_eq_getElem (by rw [HN.out]; exact hlt)⟩
      obtain ⟨b1, o1, c1, rv, hv1, _, _, hl1, q0, q1, hr1, _⟩ := (HA.out.keep BW.out).get hc
      obtain ⟨b2, o2, c2, ru, hv2, _, _, hl2, p0, p1, hr2, _⟩ := (HB.out.keep BW.out).get hc
      rw [HN.out] at hv1 hv2
      simp only [Value.slice.injEq, true_and] at hv1 hv2
      obtain ⟨rfl, rfl⟩ := hv1
      obtain ⟨rfl, rfl⟩ := hv2
      obtain ⟨r1a, r1c, rfl, _, _⟩ := hr1.form
      obtain ⟨r2a, r2c, rfl, _, _⟩ := hr2.form
      have hdk : decide ((k : Int) < 0) = false := by simp
      have hdn : decide ((n : Int) ≤ (k : Int)) = false := by simp; omega
      have HSR := Lib.hid (fun W (hW : Below wo.heap.size wo W) => sameRel_any W ⟨c.name.toArray⟩ (.slice r1a c.cols.length r1c) (.slice r2a c.cols.length r2c) c.cols (ColsAt.keep hr1 hW) (ColsAt.keep hr2 hW))
      clear hr1 hr2 hc
      go_wp2_with fail
      go_region_law (go_simp; go_at_call 43; refine (HSR.out _ (bdrew (Below.refl _ _))).mono ?_; rintro e w6 ⟨rfl, hb6⟩; have HB6 := Lib.hid (bt2 (bdrew (Below.refl _ _)) hb6); clear hb6)
      all_goals
        go_wp2_with fail
        go_roundw
        case rel => exact ⟨k + 1, by omega, by go_num, Lib.hid (BW.out.trans (HB6.out.mono BW.out.size))⟩
        case measure => simp [intOf]; omega
    · obtain rfl : k = n := by omega
      go_wp2_with fail
      go_ret
      exact ⟨rfl, BW.out⟩
end Go.Proofs.YtgilflkgibfjgaaDoor
namespace Go.Proofs.YtgilflkgibfjgaaDoor
open Go.RowKit
set_option linter.unusedVariables false

theorem Blk.modS {G : Nat → Prop} {w w' : World} {g : Nat} {t : TypeId} {cs : Array Value} (h : Blk w g t cs) (hm : Mod G w w') (hn : ¬ G g) : Blk w' g t cs := h.modQ hm hn
/-- The schema and the document's list, apart. -/
def SPI (w wr : World) (b : Nat) (m : Int) (dv : Value) (d : List Rln) : Prop :=
  ∃ Q Q2 : Nat → Prop, SchAt Q wr b m d ∧ RelsOwn Q2 wr dv d ∧ (∀ k, Q k → w.heap.size ≤ k ∧ k < wr.heap.size ∧ k ≠ b ∧ ¬ Q2 k) ∧ (∀ k, Q2 k → k < wr.heap.size ∧ k ≠ b) ∧ w.heap.size ≤ b ∧ Below w.heap.size w wr ∧ (d.length : Int) ≤ m
theorem SPI.keep {w wr w' : World} {b : Nat} {m : Int} {dv : Value} {d : List Rln} (h : SPI w wr b m dv d) (hb : Below wr.heap.size wr w') : SPI w w' b m dv d := by
  obtain ⟨Q, Q2, h1, h2, h3, h4, h5, h6, h7⟩ := h
  have hs := hb.size
  exact ⟨Q, Q2, h1.keep hb, h2.keep hb, fun k hk => by obtain ⟨a, b, c, d⟩ := h3 k hk; exact ⟨a, by omega, c, d⟩, fun k hk => by obtain ⟨a, b⟩ := h4 k hk; exact ⟨by omega, b⟩, h5, h6.trans (hb.mono h6.size), h7⟩
theorem SPI.sch {w wr : World} {b : Nat} {m : Int} {dv : Value} {d : List Rln} (h : SPI w wr b m dv d) : ∃ Q, SchAt Q wr b m d := by
  obtain ⟨Q, _, h1, _⟩ := h
  exact ⟨Q, h1⟩
theorem SPI.small {w wr : World} {b : Nat} {m : Int} {dv : Value} {d : List Rln} (h : SPI w wr b m dv d) : SmallD d := by
  obtain ⟨Q, _, ⟨_, _, _, h3⟩, _⟩ := h
  exact h3
theorem SPI.rels {w wr : World} {b : Nat} {m : Int} {dv : Value} {d : List Rln} (h : SPI w wr b m dv d) : RelsAt wr dv d := by
  have hs := h.small
  obtain ⟨_, Q2, _, h2, _⟩ := h
  exact hs.at h2
theorem SPI.below {w wr : World} {b : Nat} {m : Int} {dv : Value} {d : List Rln} (h : SPI w wr b m dv d) : Below w.heap.size w wr := by
  obtain ⟨_, _, _, _, _, _, _, h6, _⟩ := h
  exact h6
theorem SPI.start (w : World) (m : Int) (h1 : 1 ≤ m) : SPI w (w.alloc (.cells #[.int .i64 m, .slice none 0 0] 132)) w.heap.size m (.slice none 0 0) [] :=
  ⟨fun _ => False, fun _ => False, SchAt.new w m, ⟨[], World.ownsRow_nil _ _ _ _, fun k hk => by simp [Value.ownBlock] at hk, trivial⟩, fun _ f => f.elim, fun _ f => f.elim, Nat.le_refl _, balloc (Below.refl _ _) _, by simp; omega⟩
/-- A call of Add on both sides, and what was handed in written over. -/
theorem SPI.add {w wo Wb w6 w7 wz : World} {b : Nat} {m : Int} {dv dv' : Value} {d : List Rln} {r : Rln}
    {Q Q2 : Nat → Prop} (h1 : SchAt Q wo b m d) (h2 : RelsOwn Q2 wo dv d) (h3 : ∀ k, Q k → w.heap.size ≤ k ∧ k < wo.heap.size ∧ k ≠ b ∧ ¬ Q2 k) (h4 : ∀ k, Q2 k → k < wo.heap.size ∧ k ≠ b) (h5 : w.heap.size ≤ b) (h6 : Below w.heap.size w wo)
    (hm : (d.length : Int) ≤ m)
    (hb : Below wo.heap.size wo Wb) (hs6 : SchAt (fun k => Q k ∨ Wb.heap.size ≤ k) w6 b m (addL m d r)) (hm6 : Mod (fun k => k = b ∨ Q k) Wb w6)
    (hv : (addE m d r ≠ 0 ∧ dv' = dv) ∨ (addE m d r = 0 ∧ RelsNew w6.heap.size w7 dv' (d ++ [r]))) (hb7 : Below w6.heap.size w6 w7) (hmz : Mod (fun k => wo.heap.size ≤ k ∧ k < Wb.heap.size) w7 wz) :
    SPI w wz b m dv' (addL m d r) := by
  have z1 := hb.size
  have z2 := hm6.size
  have z3 := hb7.size
  have z4 := hmz.size
  have z5 := h6.size
  have hbl := h1.lt
  have hs7 : SchAt (fun k => Q k ∨ Wb.heap.size ≤ k ∧ k < w6.heap.size) w7 b m (addL m d r) := (hs6.mono (Q' := fun k => Q k ∨ Wb.heap.size ≤ k ∧ k < w6.heap.size) (fun k hk hh => hh.imp id fun h => ⟨h, hk⟩)).keep hb7
  have hsz := hs7.mod hmz (by omega) (fun k hk hf => by
    rcases hk with hk | hk
    · have := (h3 k hk).2.1; omega
    · omega)
  have hbw : Below w.heap.size w wz := by
    have e1 : Below w.heap.size Wb w6 := hm6.below (by omega) (fun i hi => by
      rcases hi with rfl | hi
      · exact h5
      · exact (h3 i hi).1)
    have e2 : Below w.heap.size w7 wz := hmz.below (by omega) (fun i hi => by omega)
    exact (((h6.trans (hb.mono z5)).trans e1).trans (hb7.mono (by omega))).trans e2
  rcases hv with ⟨he, rfl⟩ | ⟨he, hn⟩
  · have hd7 : RelsOwn Q2 w7 dv' d := (((h2.keep hb).mod hm6 (fun k hk hf => by
      rcases hf with rfl | hf
      · exact (h4 _ hk).2 rfl
      · exact (h3 k hf).2.2.2 hk)).keep hb7)
    have hdz := hd7.mod hmz (fun k hk hf => by have := (h4 k hk).1; omega)
    rw [addL_same he] at hsz ⊢
    refine ⟨_, Q2, hsz, hdz, fun k hk => ?_, fun k hk => ⟨by have := (h4 k hk).1; omega, (h4 k hk).2⟩, h5, hbw, hm⟩
    rcases hk with hk | hk
    · obtain ⟨a1, a2, a3, a4⟩ := h3 k hk
      exact ⟨a1, by omega, a3, a4⟩
    · exact ⟨by omega, by omega, by omega, fun hf => by have := (h4 k hf).1; omega⟩
  · have hn7 : RelsOwn (fun k => w6.heap.size ≤ k ∧ k < w7.heap.size) w7 dv' (d ++ [r]) := hn.mono fun k hk hh => ⟨hh, hk⟩
    have hnz := hn7.mod hmz (fun k hk hf => by omega)
    have hlen : ((addL m d r).length : Int) ≤ m := by
      rw [addL_more he, List.length_append]
      have hne : ¬ m ≤ (d.length : Int) := by
        intro hle
        unfold addE at he
        split at he
        · rename_i hh; exact hh he
        · split at he
          · cases he
          · exact absurd he (by decide)
      simp
      omega
    rw [addL_more he] at hsz hlen ⊢
    refine ⟨_, _, hsz, hnz, fun k hk => ?_, fun k hk => ⟨by omega, by omega⟩, h5, hbw, hlen⟩
    rcases hk with hk | hk
    · obtain ⟨a1, a2, a3, a4⟩ := h3 k hk
      exact ⟨a1, by omega, a3, by omega⟩
    · exact ⟨by omega, by omega, by omega, by omega⟩
/-- What Find tells, in one. -/
def FindU (w : World) (d : List Rln) (x : List UInt8) (e : Ending) (w' : World) : Prop :=
  ∃ (fb : Bool) (nm : ByteArray) (ua : Option Addr) (un uc : Nat), e = .returned (.tuple #[.agg #[.string nm, .slice ua un uc], .bool fb]) ∧ Wrt (fun g => w.heap.size ≤ g) w' 2 ua un ∧ un ≤ 5 ∧
    ((fb = false ∧ plI d x = -1 ∧ nm = ⟨#[]⟩ ∧ un = 0) ∨ (fb = true ∧ ∃ (k : Nat) (r : Rln), plI d x = k ∧ d[k]? = some r ∧ nm = ⟨r.name.toArray⟩ ∧ ColsAt w' (.slice ua un uc) r.cols)) ∧ Below w.heap.size w w'
theorem findU_any {Q : Nat → Prop} (w : World) (b : Nat) (m : Int) (d : List Rln) (x : List UInt8) (h : SchAt Q w b m d) :
    Calls Tryd.prog 44 #[.pointer (some ⟨b, 0, none⟩), .string ⟨x.toArray⟩] w (FindU w d x) := by
  have hsm : SmallD d := by
    obtain ⟨_, _, _, h3⟩ := h
    exact h3
  refine (findL_any w b m d x h).mono ?_
  rintro e w' (⟨h1, rfl, hb⟩ | ⟨k, r, u, h1, h2, h3, rfl, ho, hb⟩)
  · exact ⟨false, _, _, _, _, rfl, .inl rfl, by omega, .inl ⟨rfl, h1, rfl, rfl⟩, hb⟩
  · have h5 := hsm.2 r (List.mem_of_getElem? h2)
    have hat : ColsAt w' u r.cols := ho.at (by omega)
    obtain ⟨ua, uc, rfl⟩ := own_sl (show World.ownsRow _ _ _ _ _ _ _ from ho)
    exact ⟨true, _, _, _, _, rfl, Wrt.ofOwn (show World.ownsRow _ _ _ _ _ _ _ from ho) (flat2_len _) (fun g _ _ hg => hg), h5, .inr ⟨rfl, k, r, h1, h2, rfl, hat⟩, hb⟩
/-- What the code's Add tells, at a relation. -/
theorem addR_any {Q : Nat → Prop} (w : World) (b : Nat) (m : Int) (d : List Rln) (v : Value) (r : Rln) (h : SchAt Q w b m d) (hm1 : m ≤ 8) (hdm : (d.length : Int) ≤ m) (hQb : ¬ Q b)
    (hcs : ColsAt w v r.cols) (hl : r.cols.length ≤ 5864062014634) (hn : r.name.length ≤ 140737488351232) (hc : ∀ c ∈ r.cols, c.x.length ≤ 140737488351232) :
    Calls Tryd.prog 35 #[.pointer (some ⟨b, 0, none⟩), .agg #[.string ⟨r.name.toArray⟩, v]] w (AddP Q w b m d r) :=
  add_any w b m d ⟨r.name.toArray⟩ v r.cols h hm1 hdm hQb hcs hl (by have e : (⟨r.name.toArray⟩ : ByteArray).size = r.name.length := by simp [ByteArray.size]
                                                                     omega) (fun c hm => by have := hc c hm; omega)
theorem refAddR_any (w : World) (dv : Value) (m : Int) (d : List Rln) (v : Value) (r : Rln) (hd : RelsAt w dv d) (hd8 : d.length ≤ 8) (hcs : ColsAt w v r.cols) (hl : r.cols.length ≤ 5864062014634) (hn : r.name.length ≤ 140737488351232) (hc : ∀ c ∈ r.cols, c.x.length ≤ 140737488351232) :
    Calls Tryd.prog 42 #[dv, .int .i64 m, .agg #[.string ⟨r.name.toArray⟩, v]] w (RAddP w m dv d r) :=
  refAdd_any w dv m d ⟨r.name.toArray⟩ v r.cols hd hd8 hcs hl (by have e : (⟨r.name.toArray⟩ : ByteArray).size = r.name.length := by simp [ByteArray.size]
                                                                  omega) (fun c hm => by have := hc c hm; omega)
theorem RAddP.form {w w' : World} {m : Int} {da : Option Addr} {dc dn : Nat} {d : List Rln} {r : Rln} {e : Ending} (hdn : d.length = dn) (h : RAddP w m (.slice da dn dc) d r e w') :
    ∃ da' dc' dn', e = .returned (.tuple #[.slice da' dn' dc', .int .i64 (addE m d r)]) ∧ (addL m d r).length = dn' ∧ ((addE m d r ≠ 0 ∧ Value.slice da' dn' dc' = .slice da dn dc) ∨ (addE m d r = 0 ∧ RelsNew w.heap.size w' (.slice da' dn' dc') (d ++ [r]))) ∧ Below w.heap.size w w' := by
  obtain ⟨v', rfl, h1, h2⟩ := h
  rcases h1 with ⟨he, rfl⟩ | ⟨he, hn⟩
  · exact ⟨da, dc, dn, rfl, by rw [addL_same he, hdn], .inl ⟨he, rfl⟩, h2⟩
  · obtain ⟨rows, h3, h4, h5⟩ := hn
    obtain ⟨a, c, rfl⟩ := own_sl h3
    exact ⟨a, c, _, rfl, by rw [addL_more he], .inr ⟨he, ⟨rows, h3, h4, h5⟩⟩, h2⟩
end Go.Proofs.YtgilflkgibfjgaaDoor
