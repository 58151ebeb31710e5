/- change.clone; slices.Backward over a batch, a contract for whatever loop body. -/
import Derived.Test.YtgilflkgibfjgaaDoorCh0Z
import Derived.Test.YtgilflkgibfjgaaDoorCqZ
import Derived.Test.YtgilflkgibfjgaaDoorCv
import Derived.RangeFuncNested
import Derived.RangeFuncBound
import Derived.RangeFuncCalls
import Derived.RangeFuncLeaves
import Derived.Shelf.Abstract
import Derived.Shelf.RegionOpen
import Derived.OwnWalkIn
import Derived.TacticsInMore
import Derived.LoopNIn
import Derived.LoopIn
import Derived.Deep.RegionLaw
namespace Go.Proofs.YtgilflkgibfjgaaDoor
open Go.RowKit Go.Shelf
attribute [local go_sem] Oper.semAt_some
set_option linter.unusedVariables false

def flipC (c : Chg) : Chg := ⟨!c.add, c.rel, c.row⟩
/-- The batch backwards. -/
def invB (b : List Chg) : List Chg := (b.map flipC).reverse
theorem flip_flip (c : Chg) : flipC (flipC c) = c := by
  obtain ⟨a, r, w⟩ := c
  simp [flipC]
theorem inv_inv (b : List Chg) : invB (invB b) = b := by
  unfold invB
  rw [List.map_reverse, List.reverse_reverse, List.map_map]
  conv => rhs; rw [← List.map_id b]
  exact List.map_congr_left fun c _ => flip_flip c
theorem inv_len (b : List Chg) : (invB b).length = b.length := by simp [invB]

set_option maxHeartbeats 1000000 in
set_option maxRecDepth 100000 in
theorem cclone_ret {g : Nat} {W : World} {x y z : Value} {T : Array Value} {Post : Ending → World → Prop} (h : Blk W g 56 #[x, y, z]) (h2 : T[2]?.getD undef = .pointer (some ⟨g, 0, none⟩))
    (hP : Post (.returned (.agg #[x, y, z])) W) : bodyPost Tryd.prog Tryd.f92 Post Exit.ret { tmps := T, defers := [] } W := by
  have c0 := h.cell 0
  have c1 := h.cell 1
  have c2 := h.cell 2
  simp only [List.getElem?_toArray, List.getElem?_cons_zero, List.getElem?_cons_succ] at c0 c1 c2
  exact bodyPost_ret (v := .agg #[x, y, z]) (by simp [results, Tryd.results92, go_sem, h2, c0, c1, c2]) rfl hP

set_option maxHeartbeats 4000000 in
set_option maxRecDepth 100000 in
theorem cclone_any (w : World) (ad : Bool) (nm : ByteArray) (v : Value) (row : List Vl) (h : RowAt w v 3 (row.map Vl.cells)) (hl : row.length ≤ 4398046511104) :
    Calls Tryd.prog 92 #[.agg #[.bool ad, .string nm, v]] w fun e w' => ∃ u, e = .returned (.agg #[.bool ad, .string nm, u]) ∧ w'.ownsRow w.heap.size 45 3 u row.length (row.map Vl.cells).flatten ∧ Below w.heap.size w w' := by
  have hcl := fun W (hb : Below w.heap.size w W) => clone_Val W v (row.map Vl.cells) (RowAt.keep h hb) (vl_len row) (vl_one row) (by rw [List.length_map]; omega)
  obtain ⟨sa, sc, rfl, hnc, hcm⟩ := h.form
  rw [List.length_map] at *
  have bx := (Blk.new w 56 #[.bool ad, .string nm, .slice sa row.length sc]).alloc (.cells #[.bool false, .string ⟨#[]⟩, .slice none 0 0] 56)
  have br := blkNew1 w (.cells #[.bool ad, .string nm, .slice sa row.length sc] 56) 56 #[.bool false, .string ⟨#[]⟩, .slice none 0 0]
  have b0 : Below w.heap.size w ((w.alloc (.cells #[.bool ad, .string nm, .slice sa row.length sc] 56)).alloc (.cells #[.bool false, .string ⟨#[]⟩, .slice none 0 0] 56)) := balloc (balloc (Below.refl _ _) _) _
  have HCL := Lib.hid hcl
  have BX := Lib.hid bx
  have BR := Lib.hid br
  have B0 := Lib.hid b0
  clear h hcl bx br b0
  generalize row.length = n at *
  go_enter Tryd.func92, Tryd.ntmps92
  go_wp2_with fail
  have x0 := BX.out.cell 0
  have x1 := BX.out.cell 1
  have x2 := BX.out.cell 2
  simp only [List.getElem?_toArray, List.getElem?_cons_zero, List.getElem?_cons_succ] at x0 x1 x2
  have hxl := BX.out.lt
  go_region_law (go_simp; go_at_call 130; refine (HCL.out _ (bdrew B0.out)).mono ?_; rintro e w1 ⟨v1, rfl, hown1, hb1⟩; obtain ⟨va, vc, rfl⟩ := own_sl hown1; have xb := BX.out.drew.below hb1 (by simp <;> omega); have rb := BR.out.drew.below hb1 (by simp <;> omega); have y0 := xb.cell 0; have y1 := xb.cell 1; have yl := xb.lt; have r0 := rb.cell 0; have r1 := rb.cell 1; have r2 := rb.cell 2; have f0 := rb.frozen 0; have f1 := rb.frozen 1; have f2 := rb.frozen 2; have rl := rb.lt; simp only [List.getElem?_toArray, List.getElem?_cons_zero, List.getElem?_cons_succ] at y0 y1 r0 r1 r2; have hlow := World.ownsRow.low hown1 (show w.heap.size ≤ _ by simp <;> omega); have bw := (bdrew B0.out).trans (hb1.mono (by simp <;> omega)); have HRB := Lib.hid rb; have HLW := Lib.hid hlow; have HBW := Lib.hid bw; clear xb rb hlow bw hown1 hb1)
  all_goals
    have hs := set3_facts (a := .bool ad) (b := .string nm) (c := .slice va n vc) HRB.out
    have HS1 := Lib.hid hs.1
    have HS2 := Lib.hid hs.2
    clear hs r0 r1 r2 f0 f1 f2 y0 y1
    go_wp2_with fail
    exact (cclone_ret HS1.out rfl ⟨_, rfl, HS2.out.1.ownsRow HLW.out (by decide), HS2.out.2.2 _ _ (by omega) HBW.out⟩)

/-- One change of the batch, as the loop tells it. -/
structure BT (w0 : World) where
  i : Nat
  c : Chg
  rv : Value
  at_ : RowAt w0 rv 3 (c.row.map Vl.cells)
  small : c.row.length ≤ 4398046511104
def encBT {w0 : World} (x : BT w0) : Array Value := #[.int .i64 (x.i : Int), .agg #[.bool x.c.add, .string ⟨x.c.rel.toArray⟩, x.rv]]

/-- What a round keeps: what lay in w0, and the block of the list. -/
def KInv (w0 : World) (Bs : Nat) (w w' : World) : Prop := Below w0.heap.size w w' ∧ (Bs < w.heap.size → w'.heap[Bs]? = w.heap[Bs]?)
theorem KInv.trans {w0 : World} {Bs : Nat} {a b c : World} (h : KInv w0 Bs a b) (k : KInv w0 Bs b c) : KInv w0 Bs a c :=
  ⟨h.1.trans k.1, fun hb => (k.2 (Nat.lt_of_lt_of_le hb h.1.size)).trans (h.2 hb)⟩
theorem KInv.below {w0 : World} {Bs : Nat} {a b : World} (hs : w0.heap.size ≤ a.heap.size) (h : Below a.heap.size a b) : KInv w0 Bs a b := ⟨h.mono hs, fun hb => h.block Bs hb⟩
theorem KInv.mod {w0 : World} {Bs g : Nat} {a b : World} (hs : w0.heap.size ≤ a.heap.size) (h : Mod (fun k => k = g) a b) (hg : w0.heap.size ≤ g) (hne : g ≠ Bs) : KInv w0 Bs a b :=
  ⟨h.below hs (fun i e => e ▸ hg), fun hb => h.block Bs hb (fun e => hne e.symm)⟩
theorem KInv.put {w0 : World} {Bs : Nat} {w : World} (hs : w0.heap.size ≤ w.heap.size) (hb : Bs < w.heap.size) (W : World) (l : Nat) (o o' : Obj) (hl : w.heap.size ≤ l) (h : W.heap[l]? = some o) (hc : o.isCells = false) (_ : o.isWalk = false) : KInv w0 Bs W (W.putObj l o') := by
  have hg := grownBy_putObj' W l o'
  refine ⟨⟨hg.os, hg.tape, hg.output, hg.size, fun i hi => hg.block i (Nat.lt_of_lt_of_le (Nat.lt_of_lt_of_le hi (Nat.le_trans hs hl)) (Nat.le_of_lt (Array.getElem?_eq_some_iff.1 h).1)) (fun e => by simp only [Option.some.injEq] at e; omega)⟩, fun hB => hg.block Bs hB (fun e => by simp only [Option.some.injEq] at e; omega)⟩

set_option maxRecDepth 100000 in
set_option maxHeartbeats 4000000 in
theorem back1_in (n : Nat) (hn : 1 ≤ n) (l Bs : Nat) (w0 : World) (v : Value) (b : List Chg) (hR : ChgsAt w0 v b) (J Jx : List (BT w0) → World → Prop) (W : World) (hW : Below w0.heap.size w0 W)
    (hBs : Blk W Bs 50 #[v])
    (hY : ∀ pre x W1, J pre W1 → pre.length < b.length → YieldAt Fence.wide (n - 1) Tryd.prog l (encBT x) W1 fun e W' =>
      (e = .returned (.bool true) ∧ J (pre ++ [x]) W' ∧ KInv w0 Bs W1 W') ∨ (e = .returned (.bool false) ∧ Jx (pre ++ [x]) W'))
    (h0 : J [] W) :
    CallsIn Fence.wide n Tryd.prog 129 #[.func (.yield l) #[] #[], .pointer (some ⟨Bs, 0, none⟩)] W fun e W' => (∃ v, e = .returned v) ∧
      ((∃ xs, xs.map BT.c = b.reverse ∧ J xs W') ∨ (∃ pre, True ∧ Jx pre W')) := by
  refine callsIn_of_wp Tryd.func129 rfl trivial ?_ rfl
  simp only [Tryd.ntmps129, List.size_toArray, List.length_cons, List.length_nil, Nat.reduceAdd, Nat.reduceSub, Array.replicate_succ, Array.replicate_zero, List.push_toArray, List.append_toArray, List.nil_append, List.cons_append]
  obtain ⟨sa, sc, rfl, hnc, hcm⟩ := hR.form
  have hln := hR.len
  unfold maxLen at hcm
  have x0 := hBs.cell 0
  have xl := hBs.lt
  simp only [List.getElem?_toArray, List.getElem?_cons_zero] at x0
  have HR := Lib.hid hR
  have HW := Lib.hid hW
  have HBS := Lib.hid hBs
  have HY := Lib.hid hY
  have H0 := Lib.hid h0
  clear hR hW hBs hY h0
  generalize hN : b.length = n0 at *
  have HN := Lib.hid hN
  clear hN
  gi_wp2_with fail
  gi_loopw [3] (fun i wr => ∃ (m : Nat) (pre : List (BT w0)), m ≤ n0 ∧ i = .int .i64 ((m : Int) - 1) ∧ Hid (pre.map BT.c = (b.drop m).reverse) ∧ Hid (pre.length = n0 - m) ∧ Hid (J pre wr) ∧ Hid (Below w0.heap.size w0 wr) ∧ Hid (Blk wr Bs 50 #[.slice sa n0 sc]))
    (fun i _ => (intOf i + 1).toNat)
  case atStart => exact ⟨n0, [], Nat.le_refl _, rfl, Lib.hid (by rw [List.drop_eq_nil_of_le (by rw [HN.out]; exact Nat.le_refl _)]; rfl), Lib.hid (by simp), H0, HW, HBS⟩
  case round =>
    obtain ⟨m, pre, hm, rfl, HP, HPL, HJ, BW, XB⟩ := hrel
    have z0 := XB.out.cell 0
    have zl := XB.out.lt
    simp only [List.getElem?_toArray, List.getElem?_cons_zero] at z0
    cases m with
    | zero =>
      gi_wp2_with fail
      go_end0
      exact ⟨⟨_, rfl⟩, .inl ⟨_, HP.out, HJ.out⟩⟩
    | succ m =>
      have em : ((m + 1 : Nat) : Int) - 1 = (m : Int) := by omega
      rw [em]
      clear em
      obtain ⟨c, hc⟩ : ∃ c, b[m]? = some c := ⟨b[m]'(by rw [HN.out]; omega), List.getElem?_eq_getElem (by rw [HN.out]; omega)⟩
      obtain ⟨b1, o1, c1, rv, hv1, _, _, hl1, q0, q1, q2, hr1, hs1⟩ := (HR.out.keep BW.out).get hc
      obtain ⟨_, _, _, rv', hv2, _, _, hl2, _, _, p2, hr2, _⟩ := HR.out.get hc
      rw [HN.out] at hv1 hv2
      simp only [Value.slice.injEq, true_and] at hv1 hv2
      obtain ⟨rfl, rfl⟩ := hv1
      obtain ⟨h3, rfl⟩ := hv2
      simp only [Option.some.injEq, Addr.mk.injEq, and_true] at h3
      obtain ⟨rfl, rfl⟩ := h3
      have e2 : rv' = rv := by
        have := (BW.out.cell (p := ⟨b1, o1 + m * 3 + 2, none⟩) hl2).symm.trans q2
        rw [p2] at this
        exact Option.some.inj this
      subst e2
      have hdk : decide ((m : Int) < 0) = false := by simp
      have hdn : decide ((n0 : Int) ≤ (m : Int)) = false := by simp; omega
      have hx := HY.out pre ⟨m, c, rv', hr2, hs1⟩ wr HJ.out (by rw [HPL.out]; omega)
      have HP2 : Hid ((pre ++ [(⟨m, c, rv', hr2, hs1⟩ : BT w0)]).map BT.c = (b.drop m).reverse) := Lib.hid (by
        rw [List.map_append, HP.out, List.drop_eq_getElem_cons (i := m) (by rw [HN.out]; omega), List.reverse_cons]
        have := (List.getElem?_eq_some_iff.1 hc).2
        rw [this]
        rfl)
      have HC := Lib.hid hc
      clear hc p2 hl2
      obtain ⟨fn, tmps, assign, body, hy, hRR⟩ := hx
      unfold encBT at hy
      dsimp only at hy
      have HPL2 : Hid ((pre ++ [(⟨m, c, rv', hr2, hs1⟩ : BT w0)]).length = n0 - m) := Lib.hid (by
        rw [List.length_append, HPL.out]
        simp
        omega)
      clear hr1
      gi_wp2_with fail
      refine hRR.mono ?_
      clear hRR hy
      rintro e W3 (⟨rfl, hJ3, hk3⟩ | ⟨rfl, hJx3⟩)
      · have HJ3 := Lib.hid hJ3
        have HB3 := Lib.hid (BW.out.trans hk3.1)
        have HX3 : Hid (Blk W3 Bs 50 #[.slice (some ⟨b1, o1, none⟩) n0 sc]) := Lib.hid ((hk3.2 zl).trans XB.out)
        clear hJ3 hk3
        gi_wp2_with fail
        go_roundw
        case rel => exact ⟨m, _, by omega, rfl, HP2, HPL2, HJ3, HB3, HX3⟩
        case measure => simp [intOf]
      · have HJX := Lib.hid hJx3
        clear hJx3
        gi_wp2_with fail
        refine bodyPost_ret (results_none rfl _ _ _) rfl ?_
        exact ⟨⟨_, rfl⟩, .inr ⟨_, trivial, HJX.out⟩⟩

set_option maxHeartbeats 1000000 in
theorem back_any (sa : Option Addr) (n sc : Nat) (w : World) : Calls Tryd.prog 91 #[.slice sa n sc] w fun e w' =>
    e = .returned (.func (.func 129) #[] #[.pointer (some ⟨w.heap.size, 0, none⟩)]) ∧ w' = w.alloc (.cells #[.slice sa n sc] 50) := by
  have hmf : ∀ (fn : Fn) (first cap : Array Value) (w : World), (Instr.makeFunc fn first cap).run Tryd.prog w = .ok (.func fn first cap) w := fun _ _ _ _ => rfl
  go_enter Tryd.func91, Tryd.ntmps91
  go_wp2
  go_ret
  exact ⟨rfl, rfl⟩

theorem back_stops (n : Nat) (hn : 1 ≤ n) (Bs : Nat) (w0 w : World) (v : Value) (b : List Chg) (hR : ChgsAt w0 v b) (hW : Below w0.heap.size w0 w) (hBs : Blk w Bs 50 #[v]) :
    SeqStopsK Fence.wide n Tryd.prog 129 #[.pointer (some ⟨Bs, 0, none⟩)] (encBT (w0 := w0)) (KInv w0 Bs) (fun xs => xs.map BT.c = b.reverse) (fun _ => True) b.length w :=
  fun l J Jx W hW' hJ hJx hY h0 => back1_in n hn l Bs w0 v b hR J Jx W (hW.trans (hW'.mono hW.size)) (hBs.below hW' hBs.lt) hY h0
end Go.Proofs.YtgilflkgibfjgaaDoor
