/- What the document's Parse of a batch keeps in memory. -/
import Derived.Test.YtgilflkgibfjgaaGreatDoorBl0Z
import Derived.Test.YtgilflkgibfjgaaGreatDoorGg
import Derived.Test.YtgilflkgibfjgaaGreatDoorGf
import Derived.Test.YtgilflkgibfjgaaGreatDoorPg2Z
namespace Go.Proofs.YtgilflkgibfjgaaGreatDoor
open Go.RowKit
set_option linter.unusedVariables false

structure CI (w0 wb w : World) (b ab : Nat) (vt : Value) (s : LS) (pb : Bool) (rel : List UInt8) (jv : Value) (xs : List Vl) : Prop where
  ln : Ln w b s vt
  mt : MT w0.heap.size [80] wb w
  ab : Blk w ab 53 #[.bool pb, .string ⟨rel.toArray⟩, jv]
  tr : w.ownsRow wb.heap.size 65 3 jv xs.length (xs.flatMap Vl.cells)
section
variable {w0 wb w w' w1 : World} {b ab : Nat} {vt : Value} {s s' : LS} {pb : Bool} {rel : List UInt8} {jv : Value} {xs : List Vl}
theorem CI.keep (h : CI w0 wb w b ab vt s pb rel jv xs) (hb : Below w.heap.size w w') : CI w0 wb w' b ab vt s pb rel jv xs :=
  ⟨h.ln.keep hb, h.mt.plusBelow hb, h.ab.mt (MT.ofBelow (B := 0) (Ts := []) hb) (by simp), (MT.ofBelow (B := 0) (Ts := []) hb).ownsRow h.tr (by simp)⟩
theorem CI.line (h : CI w0 wb w b ab vt s pb rel jv xs) (hm : MT b [80] w w') (hl : Ln w' b s' vt) (hb : w0.heap.size ≤ b) : CI w0 wb w' b ab vt s' pb rel jv xs :=
  ⟨hl, h.mt.trans (hm.mono (by simp) hb), h.ab.mt hm (by decide), hm.ownsRow h.tr (by decide)⟩
theorem CI.name (h : CI w0 wb w b ab vt s pb rel jv xs) (hab : wb.heap.size ≤ ab) (x : List UInt8) : CI w0 wb (w.setCell ⟨ab, 1, none⟩ (.string ⟨x.toArray⟩)) b ab vt s pb x jv xs := by
  have ms : MT wb.heap.size [53] w (w.setCell ⟨ab, 1, none⟩ (.string ⟨x.toArray⟩)) := MT.setCell (MT.refl w) h.ab (by simp) hab _
  refine ⟨h.ln.mt ms (by decide) (by decide), h.mt.own (b := ab) ((Mod.refl (fun k => k = ab) w).setCell (p := ⟨ab, 1, none⟩) (fun _ => rfl) _) hab, ?_, ms.ownsRow h.tr (by decide)⟩
  simpa using h.ab.set_ 1 (.string ⟨x.toArray⟩)
theorem CI.row {jv' : Value} {x : Vl} (h : CI w0 wb w b ab vt s pb rel jv xs) (hg : w.grownBy w1 jv.ownBlock) (hab : wb.heap.size ≤ ab)
    (hown : w1.ownsRow wb.heap.size 65 3 jv' (xs.length + 1) ((xs.flatMap Vl.cells) ++ x.cells)) : CI w0 wb (w1.setCell ⟨ab, 2, none⟩ jv') b ab vt s pb rel jv' (xs ++ [x]) := by
  have m : MT wb.heap.size [65] w w1 := (MT.refl w).grown hg h.tr (by simp) (Nat.le_refl _)
  have a1 := h.ab.mt m (by decide)
  have ms : MT wb.heap.size [53] w1 (w1.setCell ⟨ab, 2, none⟩ jv') := MT.setCell (MT.refl w1) a1 (by simp) hab _
  have mm : MT wb.heap.size [65, 53] w (w1.setCell ⟨ab, 2, none⟩ jv') := (m.wide (by simp)).trans (ms.wide (by simp))
  have m0 : MT w0.heap.size [80] wb w1 := Mod.grown h.mt hg fun k hk hlt => by
    have := (h.tr.lt k hk).1
    omega
  refine ⟨h.ln.mt mm (by decide) (by decide), m0.own (b := ab) ((Mod.refl (fun k => k = ab) w1).setCell (p := ⟨ab, 2, none⟩) (fun _ => rfl) jv') hab, ?_, ?_⟩
  · simpa using a1.set_ 2 jv'
  · have := ms.ownsRow hown (by decide)
    simpa using this
end
theorem cgS_cg1 (s : LS) : cgS s = cg1 (isS 3 [43] s) (plS s) (wantS 1 [] (sgS s)) := rfl
theorem sgS_want (s : LS) : sgS s = (wantS 3 (if isS 3 [43] s = true then [43] else [45]) s).2 := rfl
theorem ltS_meas (s : LS) : meas (ltS s).2 ≤ meas s := want_meas 2 [] s
theorem cgS_meas (s : LS) : meas (cgS s).2 ≤ meas s := by
  have h1 := want_meas 3 (if isS 3 [43] s = true then [43] else [45]) s
  rw [cgS_cg1, sgS_want]
  generalize wantS 3 (if isS 3 [43] s = true then [43] else [45]) s = X at h1
  have h2 := want_meas 1 [] X.2
  generalize wantS 1 [] X.2 = Y at h2
  rw [cg1_list]
  have h3 := listS_meas ltS_meas Y.2
  simp only
  omega
theorem moreB_good {n : Nat} {s : LS} (h : Good s) : Good (moreB n s).2 := by
  cases s with
  | bad a e => exact h
  | ok c =>
    show Good (if n = 0 then _ else _ : Bool × LS).2
    split
    · exact h
    · exact more_good h
/-- A change that is there. -/
theorem chgsOwn_snoc {B : Nat} {w w9 : World} {ov : Value} {l : List Chg} {x : Chg} {rv : Value} {g cap : Nat} {rows : List (List Value)} {o : Obj}
    (hro : w.ownsRow B 53 3 ov l.length rows.flatten) (hra : All2 (ChgO B w) rows l) (hrow : w.ownsRow B 65 3 rv x.row.length (x.row.map Vl.cells).flatten)
    (hg : (w.alloc o).grownBy w9 ov.ownBlock) (hown : w9.ownsRow B 53 3 (.slice (some ⟨g, 0, none⟩) (l.length + 1) cap) (l.length + 1) (rows.flatten ++ [.bool x.add, .string ⟨x.rel.toArray⟩, rv])) :
    ChgsOwn B w9 (.slice (some ⟨g, 0, none⟩) (l.length + 1) cap) (l ++ [x]) := by
  have m : MT 0 [53] w w9 := ((MT.refl w).alloc o).grown hg (hro.alloc o) (by simp) (Nat.zero_le _)
  refine ⟨rows ++ [[.bool x.add, .string ⟨x.rel.toArray⟩, rv]], ?_, All2.snoc ⟨rv, rfl, m.ownsRow hrow (by decide)⟩ (hra.mono fun b a h => h.mt m (by decide))⟩
  rw [List.flatten_append, List.length_append]
  simpa using hown
end Go.Proofs.YtgilflkgibfjgaaGreatDoor
