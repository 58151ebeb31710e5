/- change.clone; slices.Backward over a batch, a contract for whatever loop body. change.Invert, walked. osierref10.Invert, walked. -/
import Derived.Test.YtgjknekoehfdfaaGreatDoorCh0Z
import Derived.Test.YtgjknekoehfdfaaGreatDoorCqZ
import Derived.Test.YtgjknekoehfdfaaGreatDoorCv
import Derived.Test.YtgjknekoehfdfaaGreatDoorGr
import Derived.Test.YtgjknekoehfdfaaGreatDoorGg
import Derived.Test.YtgjknekoehfdfaaGreatDoorBe
import Derived.RangeFuncNested
import Derived.RangeFuncBound
import Derived.RangeFuncCalls
import Derived.RangeFuncLeaves
import Derived.Shelf.Abstract
import Derived.Shelf.RegionOpen
import Derived.OwnWalkIn
import Derived.TacticsInMore
import Derived.LoopNIn
import Derived.LoopIn
import Derived.Deep.RegionLaw
namespace Go.Proofs.YtgjknekoehfdfaaGreatDoor
open Go.RowKit Go.Shelf
attribute [local go_sem] Oper.semAt_some
set_option linter.unusedVariables false

def flipC (c : Chg) : Chg := ⟨!c.add, c.rel, c.row⟩
/-- The batch backwards. -/
def invB (b : List Chg) : List Chg := (b.map flipC).reverse
theorem flip_flip (c : Chg) : flipC (flipC c) = c := by
  obtain ⟨a, r, w⟩ := c
  simp [flipC]
theorem inv_inv (b : List Chg) : invB (invB b) = b := by
  unfold invB
  rw [List.map_reverse, List.reverse_reverse, List.map_map]
  conv => rhs; rw [← List.map_id b]
  exact List.map_congr_left fun c _ => flip_flip c
theorem inv_len (b : List Chg) : (invB b).length = b.length := by simp [invB]

set_option maxHeartbeats 1000000 in
set_option maxRecDepth 100000 in
theorem cclone_ret {g : Nat} {W : World} {x y z : Value} {T : Array Value} {Post : Ending → World → Prop} (h : Blk W g 30 #[x, y, z]) (h2 : T[2]?.getD undef = .pointer (some ⟨g, 0, none⟩))
    (hP : Post (.returned (.agg #[x, y, z])) W) : bodyPost Tryz.prog Tryz.f44 Post Exit.ret { tmps := T, defers := [] } W := by
  have c0 := h.cell 0
  have c1 := h.cell 1
  have c2 := h.cell 2
  simp only [List.getElem?_toArray, List.getElem?_cons_zero, List.getElem?_cons_succ] at c0 c1 c2
  exact bodyPost_ret (v := .agg #[x, y, z]) (by simp [results, Tryz.results44, go_sem, h2, c0, c1, c2]) rfl hP

set_option maxHeartbeats 4000000 in
set_option maxRecDepth 100000 in
theorem cclone_any (w : World) (ad : Bool) (nm : ByteArray) (v : Value) (row : List Vl) (h : RowAt w v 3 (row.map Vl.cells)) (hl : row.length ≤ 4398046511104) :
    Calls Tryz.prog 44 #[.agg #[.bool ad, .string nm, v]] w fun e w' => ∃ u, e = .returned (.agg #[.bool ad, .string nm, u]) ∧ w'.ownsRow w.heap.size 74 3 u row.length (row.map Vl.cells).flatten ∧ Below w.heap.size w w' := by
  have hcl := fun W (hb : Below w.heap.size w W) => clone_Val W v (row.map Vl.cells) (RowAt.keep h hb) (vl_len row) (vl_one row) (by rw [List.length_map]; omega)
  obtain ⟨sa, sc, rfl, hnc, hcm⟩ := h.form
  rw [List.length_map] at *
  have bx := (Blk.new w 30 #[.bool ad, .string nm, .slice sa row.length sc]).alloc (.cells #[.bool false, .string ⟨#[]⟩, .slice none 0 0] 30)
  have br := blkNew1 w (.cells #[.bool ad, .string nm, .slice sa row.length sc] 30) 30 #[.bool false, .string ⟨#[]⟩, .slice none 0 0]
  have b0 : Below w.heap.size w ((w.alloc (.cells #[.bool ad, .string nm, .slice sa row.length sc] 30)).alloc (.cells #[.bool false, .string ⟨#[]⟩, .slice none 0 0] 30)) := balloc (balloc (Below.refl _ _) _) _
  have HCL := Lib.hid hcl
  have BX := Lib.hid bx
  have BR := Lib.hid br
  have B0 := Lib.hid b0
  clear h hcl bx br b0
  generalize row.length = n at *
  go_enter Tryz.func44, Tryz.ntmps44
  go_wp2_with fail
  have x0 := BX.out.cell 0
  have x1 := BX.out.cell 1
  have x2 := BX.out.cell 2
  simp only [List.getElem?_toArray, List.getElem?_cons_zero, List.getElem?_cons_succ] at x0 x1 x2
  have hxl := BX.out.lt
  go_region_law (go_simp; go_at_call 116; refine (HCL.out _ (bdrew B0.out)).mono ?_; rintro e w1 ⟨v1, rfl, hown1, hb1⟩; obtain ⟨va, vc, rfl⟩ := own_sl hown1; have xb := BX.out.drew.below hb1 (by simp <;> omega); have rb := BR.out.drew.below hb1 (by simp <;> omega); have y0 := xb.cell 0; have y1 := xb.cell 1; have yl := xb.lt; have r0 := rb.cell 0; have r1 := rb.cell 1; have r2 := rb.cell 2; have f0 := rb.frozen 0; have f1 := rb.frozen 1; have f2 := rb.frozen 2; have rl := rb.lt; simp only [List.getElem?_toArray, List.getElem?_cons_zero, List.getElem?_cons_succ] at y0 y1 r0 r1 r2; have hlow := World.ownsRow.low hown1 (show w.heap.size ≤ _ by simp <;> omega); have bw := (bdrew B0.out).trans (hb1.mono (by simp <;> omega)); have HRB := Lib.hid rb; have HLW := Lib.hid hlow; have HBW := Lib.hid bw; clear xb rb hlow bw hown1 hb1)
  all_goals
    have hs := set3_facts (a := .bool ad) (b := .string nm) (c := .slice va n vc) HRB.out
    have HS1 := Lib.hid hs.1
    have HS2 := Lib.hid hs.2
    clear hs r0 r1 r2 f0 f1 f2 y0 y1
    go_wp2_with fail
    exact (cclone_ret HS1.out rfl ⟨_, rfl, HS2.out.1.ownsRow HLW.out (by decide), HS2.out.2.2 _ _ (by omega) HBW.out⟩)

/-- One change of the batch, as the loop tells it. -/
structure BT (w0 : World) where
  i : Nat
  c : Chg
  rv : Value
  at_ : RowAt w0 rv 3 (c.row.map Vl.cells)
  small : c.row.length ≤ 4398046511104
def encBT {w0 : World} (x : BT w0) : Array Value := #[.int .i64 (x.i : Int), .agg #[.bool x.c.add, .string ⟨x.c.rel.toArray⟩, x.rv]]

/-- What a round keeps: what lay in w0, and the block of the list. -/
def KInv (w0 : World) (Bs : Nat) (w w' : World) : Prop := Below w0.heap.size w w' ∧ (Bs < w.heap.size → w'.heap[Bs]? = w.heap[Bs]?)
theorem KInv.trans {w0 : World} {Bs : Nat} {a b c : World} (h : KInv w0 Bs a b) (k : KInv w0 Bs b c) : KInv w0 Bs a c :=
  ⟨h.1.trans k.1, fun hb => (k.2 (Nat.lt_of_lt_of_le hb h.1.size)).trans (h.2 hb)⟩
theorem KInv.below {w0 : World} {Bs : Nat} {a b : World} (hs : w0.heap.size ≤ a.heap.size) (h : Below a.heap.size a b) : KInv w0 Bs a b := ⟨h.mono hs, fun hb => h.block Bs hb⟩
theorem KInv.mod {w0 : World} {Bs g : Nat} {a b : World} (hs : w0.heap.size ≤ a.heap.size) (h : Mod (fun k => k = g) a b) (hg : w0.heap.size ≤ g) (hne : g ≠ Bs) : KInv w0 Bs a b :=
  ⟨h.below hs (fun i e => e ▸ hg), fun hb => h.block Bs hb (fun e => hne e.symm)⟩
theorem KInv.put {w0 : World} {Bs : Nat} {w : World} (hs : w0.heap.size ≤ w.heap.size) (hb : Bs < w.heap.size) (W : World) (l : Nat) (o o' : Obj) (hl : w.heap.size ≤ l) (h : W.heap[l]? = some o) (hc : o.isCells = false) (_ : o.isWalk = false) : KInv w0 Bs W (W.putObj l o') := by
  have hg := grownBy_putObj' W l o'
  refine ⟨⟨hg.os, hg.tape, hg.output, hg.size, fun i hi => hg.block i (Nat.lt_of_lt_of_le (Nat.lt_of_lt_of_le hi (Nat.le_trans hs hl)) (Nat.le_of_lt (Array.getElem?_eq_some_iff.1 h).1)) (fun e => by simp only [Option.some.injEq] at e; omega)⟩, fun hB => hg.block Bs hB (fun e => by simp only [Option.some.injEq] at e; omega)⟩

set_option maxRecDepth 100000 in
set_option maxHeartbeats 4000000 in
theorem back1_in (n : Nat) (hn : 1 ≤ n) (l Bs : Nat) (w0 : World) (v : Value) (b : List Chg) (hR : ChgsAt w0 v b) (J Jx : List (BT w0) → World → Prop) (W : World) (hW : Below w0.heap.size w0 W)
    (hBs : Blk W Bs 22 #[v])
    (hY : ∀ pre x W1, J pre W1 → pre.length < b.length → YieldAt Fence.wide (n - 1) Tryz.prog l (encBT x) W1 fun e W' =>
      (e = .returned (.bool true) ∧ J (pre ++ [x]) W' ∧ KInv w0 Bs W1 W') ∨ (e = .returned (.bool false) ∧ Jx (pre ++ [x]) W'))
    (h0 : J [] W) :
    CallsIn Fence.wide n Tryz.prog 124 #[.func (.yield l) #[] #[], .pointer (some ⟨Bs, 0, none⟩)] W fun e W' => (∃ v, e = .returned v) ∧
      ((∃ xs, xs.map BT.c = b.reverse ∧ J xs W') ∨ (∃ pre, True ∧ Jx pre W')) := by
  refine callsIn_of_wp Tryz.func124 rfl trivial ?_ rfl
  simp only [Tryz.ntmps124, List.size_toArray, List.length_cons, List.length_nil, Nat.reduceAdd, Nat.reduceSub, Array.replicate_succ, Array.replicate_zero, List.push_toArray, List.append_toArray, List.nil_append, List.cons_append]
  obtain ⟨sa, sc, rfl, hnc, hcm⟩ := hR.form
  have hln := hR.len
  unfold maxLen at hcm
  have x0 := hBs.cell 0
  have xl := hBs.lt
  simp only [List.getElem?_toArray, List.getElem?_cons_zero] at x0
  have HR := Lib.hid hR
  have HW := Lib.hid hW
  have HBS := Lib.hid hBs
  have HY := Lib.hid hY
  have H0 := Lib.hid h0
  clear hR hW hBs hY h0
  generalize hN : b.length = n0 at *
  have HN := Lib.hid hN
  clear hN
  gi_wp2_with fail
  gi_loopw [3] (fun i wr => ∃ (m : Nat) (pre : List (BT w0)), m ≤ n0 ∧ i = .int .i64 ((m : Int) - 1) ∧ Hid (pre.map BT.c = (b.drop m).reverse) ∧ Hid (pre.length = n0 - m) ∧ Hid (J pre wr) ∧ Hid (Below w0.heap.size w0 wr) ∧ Hid (Blk wr Bs 22 #[.slice sa n0 sc]))
    (fun i _ => (intOf i + 1).toNat)
  case atStart => exact ⟨n0, [], Nat.le_refl _, rfl, Lib.hid (by rw [List.drop_eq_nil_of_le (by rw [HN.out]; exact Nat.le_refl _)]; rfl), Lib.hid (by simp), H0, HW, HBS⟩
  case round =>
    obtain ⟨m, pre, hm, rfl, HP, HPL, HJ, BW, XB⟩ := hrel
    have z0 := XB.out.cell 0
    have zl := XB.out.lt
    simp only [List.getElem?_toArray, List.getElem?_cons_zero] at z0
    cases m with
    | zero =>
      gi_wp2_with fail
      go_end0
      exact ⟨⟨_, rfl⟩, .inl ⟨_, HP.out, HJ.out⟩⟩
    | succ m =>
      have em : ((m + 1 : Nat) : Int) - 1 = (m : Int) := by omega
      rw [em]
      clear em
      obtain ⟨c, hc⟩ : ∃ c, b[m]? = some c := ⟨b[m]'(by rw [HN.out]; omega), List.getElem?_eq_getElem (by rw [HN.out]; omega)⟩
      obtain ⟨b1, o1, c1, rv, hv1, _, _, hl1, q0, q1, q2, hr1, hs1⟩ := (HR.out.keep BW.out).get hc
      obtain ⟨_, _, _, rv', hv2, _, _, hl2, _, _, p2, hr2, _⟩ := HR.out.get hc
      rw [HN.out] at hv1 hv2
      simp only [Value.slice.injEq, true_and] at hv1 hv2
      obtain ⟨rfl, rfl⟩ := hv1
      obtain ⟨h3, rfl⟩ := hv2
      simp only [Option.some.injEq, Addr.mk.injEq, and_true] at h3
      obtain ⟨rfl, rfl⟩ := h3
      have e2 : rv' = rv := by
        have := (BW.out.cell (p := ⟨b1, o1 + m * 3 + 2, none⟩) hl2).symm.trans q2
        rw [p2] at this
        exact Option.some.inj this
      subst e2
      have hdk : decide ((m : Int) < 0) = false := by simp
      have hdn : decide ((n0 : Int) ≤ (m : Int)) = false := by simp; omega
      have hx := HY.out pre ⟨m, c, rv', hr2, hs1⟩ wr HJ.out (by rw [HPL.out]; omega)
      have HP2 : Hid ((pre ++ [(⟨m, c, rv', hr2, hs1⟩ : BT w0)]).map BT.c = (b.drop m).reverse) := Lib.hid (by
        rw [List.map_append, HP.out, List.drop_eq_getElem_cons (i := m) (by rw [HN.out]; omega), List.reverse_cons]
        have := (List.getElem?_eq_some_iff.1 hc).2
        rw [this]
        rfl)
      have HC := Lib.hid hc
      clear hc p2 hl2
      obtain ⟨fn, tmps, assign, body, hy, hRR⟩ := hx
      unfold encBT at hy
      dsimp only at hy
      have HPL2 : Hid ((pre ++ [(⟨m, c, rv', hr2, hs1⟩ : BT w0)]).length = n0 - m) := Lib.hid (by
        rw [List.length_append, HPL.out]
        simp
        omega)
      clear hr1
      gi_wp2_with fail
      refine hRR.mono ?_
      clear hRR hy
      rintro e W3 (⟨rfl, hJ3, hk3⟩ | ⟨rfl, hJx3⟩)
      · have HJ3 := Lib.hid hJ3
        have HB3 := Lib.hid (BW.out.trans hk3.1)
        have HX3 : Hid (Blk W3 Bs 22 #[.slice (some ⟨b1, o1, none⟩) n0 sc]) := Lib.hid ((hk3.2 zl).trans XB.out)
        clear hJ3 hk3
        gi_wp2_with fail
        go_roundw
        case rel => exact ⟨m, _, by omega, rfl, HP2, HPL2, HJ3, HB3, HX3⟩
        case measure => simp [intOf]
      · have HJX := Lib.hid hJx3
        clear hJx3
        gi_wp2_with fail
        refine bodyPost_ret (results_none rfl _ _ _) rfl ?_
        exact ⟨⟨_, rfl⟩, .inr ⟨_, trivial, HJX.out⟩⟩

set_option maxHeartbeats 1000000 in
theorem back_any (sa : Option Addr) (n sc : Nat) (w : World) : Calls Tryz.prog 50 #[.slice sa n sc] w fun e w' =>
    e = .returned (.func (.func 124) #[] #[.pointer (some ⟨w.heap.size, 0, none⟩)]) ∧ w' = w.alloc (.cells #[.slice sa n sc] 22) := by
  have hmf : ∀ (fn : Fn) (first cap : Array Value) (w : World), (Instr.makeFunc fn first cap).run Tryz.prog w = .ok (.func fn first cap) w := fun _ _ _ _ => rfl
  go_enter Tryz.func50, Tryz.ntmps50
  go_wp2
  go_ret
  exact ⟨rfl, rfl⟩

theorem back_stops (n : Nat) (hn : 1 ≤ n) (Bs : Nat) (w0 w : World) (v : Value) (b : List Chg) (hR : ChgsAt w0 v b) (hW : Below w0.heap.size w0 w) (hBs : Blk w Bs 22 #[v]) :
    SeqStopsK Fence.wide n Tryz.prog 124 #[.pointer (some ⟨Bs, 0, none⟩)] (encBT (w0 := w0)) (KInv w0 Bs) (fun xs => xs.map BT.c = b.reverse) (fun _ => True) b.length w :=
  fun l J Jx W hW' hJ hJx hY h0 => back1_in n hn l Bs w0 v b hR J Jx W (hW.trans (hW'.mono hW.size)) (hBs.below hW' hBs.lt) hY h0
end Go.Proofs.YtgjknekoehfdfaaGreatDoor
namespace Go.Proofs.YtgjknekoehfdfaaGreatDoor
open Go.RowKit Go.Shelf
attribute [local go_sem] Oper.semAt_some
set_option linter.unusedVariables false

theorem Tryz.infoCg : (Tryz.prog.info? 30).map (fun i => (i.zero, i.size, i.bytes)) = some (some (.agg #[.bool false, .string ⟨#[]⟩, .slice none 0 0]), 3, 48) := by kernel_rfl
section
variable {W W' : World}
theorem own_kept {row : Option Nat} {base : Nat} {e : TypeId} {size n : Nat} {v : Value} {xs : List Value} (h : W.ownsRow base e size v n xs) (hg : W.grownBy W' row) (hr : ∀ r, row = some r → ∃ o : Obj, W.heap[r]? = some o ∧ o.isCells = false) : W'.ownsRow base e size v n xs := by
  refine h.kept hg ?_
  rcases h.2 with ⟨rfl, _⟩ | ⟨g, cap, cur, rfl, _, hh, _⟩
  · exact .inl rfl
  · right
    intro e1
    obtain ⟨o, ho, hc⟩ := hr g e1.symm
    rw [hh] at ho
    cases ho
    cases hc
theorem blk_kept {row : Option Nat} {g : Nat} {t : TypeId} {cs : Array Value} (h : Blk W g t cs) (hg : W.grownBy W' row) (hr : ∀ r, row = some r → ∃ o : Obj, W.heap[r]? = some o ∧ o.isCells = false) : Blk W' g t cs := by
  refine h.grown hg ?_
  intro e1
  obtain ⟨o, ho, hc⟩ := hr g e1.symm
  rw [show W.heap[g]? = _ from h] at ho
  cases ho
  cases hc
theorem ChgsOwn.kept {row : Option Nat} {B : Nat} {v : Value} {l : List Chg} (h : ChgsOwn B W v l) (hg : W.grownBy W' row) (hr : ∀ r, row = some r → ∃ o : Obj, W.heap[r]? = some o ∧ o.isCells = false) : ChgsOwn B W' v l := by
  obtain ⟨rows, h1, h2⟩ := h
  exact ⟨rows, own_kept h1 hg hr, h2.mono fun b a ⟨rv, e, h3⟩ => ⟨rv, e, own_kept h3 hg hr⟩⟩
theorem keeps_of_below (h : Below W.heap.size W W') : KeepsOthers W W' := ⟨h.size, fun k o hk _ => (h.block k (Array.getElem?_eq_some_iff.1 hk).1).trans hk⟩
theorem keeps_of_mt {B : Nat} {Ts : List TypeId} (h : MT B Ts W W') : KeepsOthers W W' := ⟨h.size, fun k o hk hc => (Mod.block h k (Array.getElem?_eq_some_iff.1 hk).1 (fun ⟨_, cs, t, fr, h1, _⟩ => by
  rw [hk] at h1
  cases h1
  cases hc)).trans hk⟩
end
theorem wpListIn_store_blk {F : Fence} {nF : Nat} {P : Program} {ops : Array Oper} {rest : List Oper} {op : Oper} {a : Act} {w : World} {Q : Exit → Act → World → Prop} (hgd : op.guard = none) (ty : TypeId) (x y : Operand) (ho : op.op = .store ty x y)
    (b : Nat) (t : TypeId) (cs0 cells : Array Value) (hx : a.eval x = .pointer (some ⟨b, 0, none⟩)) (hy : a.eval y = .agg cells) (hb : Blk w b t cs0)
    (hi : (P.info? ty).map (·.size) = some cells.size) (hsz : cs0.size = cells.size) (h1 : cells.all (·.oneCell') = true)
    (h : ∀ w', Blk w' b t cells → Mod (fun k => k = b) w w' → w'.heap.size = w.heap.size → wpListIn F nF P ops Q rest (a.put op.dst undef) w') : wpListIn F nF P ops Q (op :: rest) a w := by
  refine wpListIn_plain hgd fun K hK => ?_
  unfold Oper.wpIn
  refine ⟨by simp [Oper.about, ho], ?_⟩
  rw [Oper.semAt_plain F _ _ (by rw [ho]; intro c hc'; cases hc')]
  simp only [execOp, ho, hx, hy, Instr.storeAt, Instr.sureAddr, Sem.run_bind, Sem.run_pure, Result.andThen_ok, run_storeVar_row (P := P) w b t ty cs0 cells hb hi hsz h1]
  exact hK _ _ (h _ (blk_setRow hb) (mod_setRow w b cells) (by simp [World.setRow]))

/-- Between two rounds: the box holds the changes so far, turned round. -/
structure InvI (w W : World) (bo n : Nat) (l : List Chg) : Prop where
  box : Blk W bo 22 #[.slice (some ⟨w.heap.size, 0, none⟩) l.length n]
  own : ChgsOwn w.heap.size W (.slice (some ⟨w.heap.size, 0, none⟩) l.length n) l
  bel : Below w.heap.size w W
theorem InvI.keep {w W W' : World} {bo n : Nat} {l : List Chg} (h : InvI w W bo n l) (hb : Below W.heap.size W W') : InvI w W' bo n l :=
  ⟨h.box.below hb h.box.lt, h.own.mt (MT.ofBelow (B := 0) (Ts := []) hb) (by simp) (by simp), h.bel.trans (hb.mono h.bel.size)⟩
theorem InvI.kept {w W W' : World} {bo n : Nat} {l : List Chg} {row : Option Nat} (h : InvI w W bo n l) (hg : W.grownBy W' row) (hr : ∀ r, row = some r → w.heap.size ≤ r ∧ ∃ o : Obj, W.heap[r]? = some o ∧ o.isCells = false) : InvI w W' bo n l :=
  ⟨blk_kept h.box hg (fun r e => (hr r e).2), h.own.kept hg (fun r e => (hr r e).2), h.bel.trans (((Mod.refl (fun k => row = some k) _).grown hg (fun k hk _ => hk)).below h.bel.size (fun k hk => (hr k hk).1))⟩

theorem InvI.push {w W w6 : World} {bo n k : Nat} {l : List Chg} {c : Chg} {rows : List (List Value)} {ua : Option Addr} {uc : Nat} (hk : l.length = k) (hwz : w.heap.size ≤ W.heap.size) (hbo : w.heap.size ≤ bo) (hbel : Below w.heap.size w W) (m : MT w.heap.size [30] W w6)
    (hbox : Blk w6 bo 22 #[.slice (some ⟨w.heap.size, 0, none⟩) k n]) (hall : All2 (ChgO w.heap.size W) rows l) (hu : w6.ownsRow w.heap.size 74 3 (.slice ua c.row.length uc) c.row.length (c.row.map Vl.cells).flatten)
    (hown : w6.ownsRow w.heap.size 30 3 (.slice (some ⟨w.heap.size, 0, none⟩) (k + 1) n) (k + 1) (rows.flatten ++ [.bool (!c.add), .string ⟨c.rel.toArray⟩, .slice ua c.row.length uc])) :
    InvI w (w6.setCell ⟨bo, 0, none⟩ (.slice (some ⟨w.heap.size, 0, none⟩) (k + 1) n)) bo n (l ++ [flipC c]) := by
  have hl : (l ++ [flipC c]).length = k + 1 := by simp [hk]
  have m2 : MT w.heap.size [22] w6 (w6.setCell ⟨bo, 0, none⟩ (.slice (some ⟨w.heap.size, 0, none⟩) (k + 1) n)) := MT.setCell (MT.refl w6) hbox (by simp) hbo _
  refine ⟨by rw [hl]; simpa using hbox.set_ 0 _, ?_, (hbel.trans (m.below hwz)).trans (m2.below (Nat.le_trans hwz m.size))⟩
  rw [hl]
  refine ⟨rows ++ [[.bool (!c.add), .string ⟨c.rel.toArray⟩, .slice ua c.row.length uc]], ?_, ?_⟩
  · rw [hl, List.flatten_append]
    exact m2.ownsRow (by simpa using hown) (by decide)
  · exact All2.snoc ⟨_, rfl, m2.ownsRow hu (by decide)⟩ (hall.mono fun q a hh => (hh.mt m (by decide)).mt m2 (by decide))

set_option maxRecDepth 100000 in
set_option maxHeartbeats 16000000 in
theorem invert_any (w : World) (v : Value) (b : List Chg) (h : ChgsAt w v b) (hn : b.length ≤ 2932031007402) :
    Calls Tryz.prog 20 #[v] w fun e w' => ∃ v', e = .returned v' ∧ ChgsOwn w.heap.size w' v' (invB b) ∧ Below w.heap.size w w' := by
  obtain ⟨ic, hic, hc0, hc1, hc2⟩ := info_parts Tryz.infoCg
  obtain ⟨sa, sc, rfl, hnc, hcm⟩ := h.form
  have hln := h.len
  have HR := Lib.hid h
  clear h
  obtain ⟨R, hR⟩ : ∃ R, R = invB b := ⟨_, rfl⟩
  rw [← hR]
  have HRES := Lib.hid hR
  clear hR
  refine (callsIn_wide (n := 9)).1 ?_
  refine callsIn_of_wp_marks Tryz.func20 rfl trivial ?_ rfl
  simp only [Tryz.ntmps20, List.size_toArray, List.length_cons, List.length_nil, Nat.reduceAdd, Nat.reduceSub, Array.replicate_succ, Array.replicate_zero, List.push_toArray, List.append_toArray, List.nil_append, List.cons_append]
  generalize hN : b.length = n at *
  have HN := Lib.hid hN
  clear hN
  unfold maxLen at hcm
  gi_wp2_with (gi_at_make; refine wpListIn_make_own _ rfl _ _ 22 rfl w.heap.size 30 ic (.agg #[.bool false, .string ⟨#[]⟩, .slice none 0 0]) 3 Tryz.underlying22 hic hc0 hc1 _ _ _ n rfl rfl rfl ?b2 ?b3 ?b4 ?_)
  case b2 => rw [hc2]; omega
  case b3 => unfold maxLen; omega
  case b4 => omega
  intro w1 hown1 hgrow1
  have hb1 : Below w.heap.size w w1 := Below.grown (Below.refl _ _) hgrow1 (Nat.le_refl _) (fun q hq => by cases hq)
  have hz1 := hb1.size
  have HO1 := Lib.hid hown1
  have HB1 := Lib.hid hb1
  clear hown1 hgrow1 hb1
  gi_wp2_with fail
  refine ⟨trivial, ?_⟩
  refine (callsIn_wide.2 (back_any _ _ _ _)).mono ?_
  rintro e w2 ⟨rfl, rfl⟩
  gi_wp2_with fail
  obtain ⟨W0, hW0⟩ : ∃ W0, (w1.alloc (.cells #[.slice (some ⟨w.heap.size, 0, none⟩) 0 n] 22)).alloc (.cells #[.slice sa n sc] 22) = W0 := ⟨_, rfl⟩
  have hz0 : W0.heap.size = w1.heap.size + 1 + 1 := by rw [← hW0]; simp
  have hb0 : Below w.heap.size w W0 := by rw [← hW0]; exact balloc (balloc HB1.out _) _
  have hbs : Blk W0 (w1.heap.size + 1) 22 #[.slice sa n sc] := by rw [← hW0]; exact blkNew1 _ _ _ _
  have hm0 : InvI w W0 w1.heap.size n [] := by
    rw [← hW0]
    exact ⟨(Blk.new w1 22 #[.slice (some ⟨w.heap.size, 0, none⟩) 0 n]).alloc _, ⟨[], by simpa using (HO1.out.alloc _).alloc _, trivial⟩, balloc (balloc HB1.out _) _⟩
  have HB0 := Lib.hid hb0
  have HBS := Lib.hid hbs
  have HM0 := Lib.hid hm0
  have HZ0 := Lib.hid hz0
  rw [hW0]
  clear hW0 hb0 hbs hm0 hz0
  refine wpIn_rangeFunc_ownH (α := BT w) rfl (by omega) (gf := 124) (lb := #[.pointer (some ⟨w1.heap.size + 1, 0, none⟩)]) rfl trivial (enters_of Tryz.func124 (by kernel_rfl) rfl)
    (back_stops 8 (by omega) (w1.heap.size + 1) w W0 _ b HR.out HB0.out HBS.out) (fun h k => h.trans k) (KInv.put HB0.out.size (by rw [HZ0.out]; omega)) (Below.refl _ _) (fun _ => rfl)
    (fun pre W => InvI w W w1.heap.size n (pre.map (fun x : BT w => flipC x.c)) ∧ w1.heap.size + 1 < W.heap.size ∧ Blk W (w1.heap.size + 1) 22 #[.slice sa n sc])
    (fun c pre _ => False)
    (fun pre A B row hs hg hr => ⟨hs.1.kept hg (fun r e => ⟨by have := (hr r e).1; have := HB0.out.size; omega, (hr r e).2⟩), Nat.lt_of_lt_of_le hs.2.1 hg.size, blk_kept hs.2.2 hg (fun r e => (hr r e).2)⟩)
    (fun c pre A B row hs _ _ => hs)
    ⟨HM0.out, by rw [HZ0.out]; omega, HBS.out⟩
    (fun x a' W => ∃ Bx, Blk W Bx 30 #[.bool x.c.add, .string ⟨x.c.rel.toArray⟩, x.rv] ∧ w1.heap.size + 1 < Bx ∧ a' = { tmps := #[.slice sa n sc, undef, .slice none 0 0, .pointer (some ⟨w1.heap.size, 0, none⟩), undef, .pointer (some ⟨Bx, 0, none⟩), .slice sa n sc, .int .i64 (n : Int), .slice (some ⟨w.heap.size, 0, none⟩) 0 n, .slice sa n sc,
      .func (.func 124) #[] #[.pointer (some ⟨w1.heap.size + 1, 0, none⟩)], .int .i64 (x.i : Int), .agg #[.bool x.c.add, .string ⟨x.c.rel.toArray⟩, x.rv], undef, undef, undef, undef, undef, undef, undef, undef, undef, undef, undef], defers := [] })
    (fun x a' _ A B row hs hg hr => by obtain ⟨Bx, h1, h2, h3⟩ := hs; exact ⟨Bx, blk_kept h1 hg (fun r e => (hr r e).2), h2, h3⟩)
    ?assign ?body ?done ?stop
  case assign =>
    rintro l pre ⟨i, c, rv, hat, hsm⟩ W K hi' hK
    obtain ⟨ra, rc, hrv, _, _⟩ := hat.form
    rw [List.length_map] at hrv
    subst hrv
    have HI' := Lib.hid hi'
    have HK := Lib.hid hK
    have hwz := hi'.1.bel.size
    clear hi' hK
    simp only [encBT]
    gi_wp2_with fail
    exact HK.out _ _ ((KeepsOthers.alloc _ _).from _) (KInv.below hwz (balloc (Below.refl _ _) _)) ⟨HI'.out.1.keep (balloc (Below.refl _ _) _), by have := HI'.out.2.1; simp; omega, HI'.out.2.2.alloc _⟩ ⟨W.heap.size, Blk.new W _ _, HI'.out.2.1, rfl⟩
  case body =>
    rintro l pre ⟨i, c, rv, hat, hsm⟩ a' W hlw ⟨r, hr⟩ hm ⟨Bx, hB, hBx, rfl⟩ hlen
    obtain ⟨ra, rc, hrv, _, _⟩ := hat.form
    rw [List.length_map] at hrv
    subst hrv
    obtain ⟨hm, hlb, hbsW⟩ := hm
    have HBW := Lib.hid hbsW
    clear hbsW
    have hbox := hm.box
    obtain ⟨rows, hrows, hall⟩ := hm.own
    rw [List.length_map] at hrows hbox
    have hlen' : pre.length < n := by rw [← HN.out]; exact hlen
    have hcl := cclone_any W c.add ⟨c.rel.toArray⟩ _ c.row (hat.keep hm.bel) hsm
    have hwz := hm.bel.size
    have x0 := hB.cell 0
    have x1 := hB.cell 1
    have x2 := hB.cell 2
    have xl := hB.lt
    simp only [List.getElem?_toArray, List.getElem?_cons_zero, List.getElem?_cons_succ] at x0 x1 x2
    have HCL := Lib.hid hcl
    have HB := Lib.hid hB
    have HM := Lib.hid hm
    have HBOX := Lib.hid hbox
    have HROWS := Lib.hid hrows
    have HALL := Lib.hid hall
    have HHR := Lib.hid hr
    have HHL := Lib.hid hlw
    clear hcl hB hm hbox hrows hall hr hlw hlen
    generalize hPL : pre.length = k at *
    have HPL := Lib.hid hPL
    clear hPL
    gi_wp2_with fail
    refine ⟨trivial, ?_⟩
    refine (CallsIn.inRound l (callsIn_wide.2 HCL.out)).mono ?_
    rintro e W1 ⟨u1, rfl, hown1, hb1⟩
    obtain ⟨ua, uc, rfl⟩ := own_sl hown1
    have HB1 := Lib.hid (HB.out.below hb1 HB.out.lt)
    have HW1 := Lib.hid hb1
    have HU1 := Lib.hid (World.ownsRow.low hown1 hwz)
    clear hown1 hb1 x0 x1 x2 xl HCL
    gi_wp2_with (refine wpListIn_store_blk rfl 30 _ _ rfl Bx 30 _ _ rfl rfl HB1.out (by kernel_rfl) rfl (by simp [Value.oneCell']) ?_)
    intro W2 hb2 hm2 hz2
    have m2 : MT w.heap.size [30] W W2 := (MT.ofBelow HW1.out).trans (MT.ofMod hm2 HB1.out (by simp) (by omega))
    have y0 := hb2.cell 0
    have y1 := hb2.cell 1
    have y2 := hb2.cell 2
    have z0 := hb2.frozen 0
    have yl := hb2.lt
    have hbx := HBOX.out.mt m2 (by decide)
    have p0 := hbx.cell 0
    have p1 := hbx.frozen 0
    have pl := hbx.lt
    simp only [List.getElem?_toArray, List.getElem?_cons_zero, List.getElem?_cons_succ] at y0 y1 y2 p0
    have hne : w1.heap.size ≠ Bx := by omega
    have hne2 : Bx ≠ w1.heap.size := by omega
    have hrow2 : W2.ownsRow w.heap.size 30 3 (.slice (some ⟨w.heap.size, 0, none⟩) k n) k rows.flatten := by
      have h1 := (MT.ofBelow (B := 0) (Ts := []) HW1.out).ownsRow HROWS.out (by simp)
      refine hm2.ownsRow h1 (fun q hq => ?_)
      simp [Value.ownBlock] at hq
      omega
    have HB2 := Lib.hid hb2
    have HM2 := Lib.hid m2
    have HR2 := Lib.hid hrow2
    have HX2 := Lib.hid hbx
    have hu2 : W2.ownsRow w.heap.size 74 3 (.slice ua c.row.length uc) c.row.length (c.row.map Vl.cells).flatten := (MT.ofMod hm2 HB1.out (by simp : 30 ∈ [30]) (Nat.zero_le _)).ownsRow HU1.out (by decide)
    have HU2 := Lib.hid hu2
    clear hu2
    clear hb2 hm2 hz2 m2 hbx hrow2
    gi_wp2_with (refine wpListIn_append_fits _ rfl (.tmp 19) (.tmp 21) 22 rfl w.heap.size 30 ic 3 Tryz.underlying22 hic hc1 w.heap.size k n rows.flatten rfl ?c6 ⟨_, 0, none⟩ 1 1 [.bool (!c.add), .string ⟨c.rel.toArray⟩, .slice ua c.row.length uc] rfl rfl ?c7 (by simp [Value.oneCell']) ?c3 ?_)
    case c7 => exact World.news_of_block (blkNewS _ _ _ _ _)
    case c3 => omega
    case c6 =>
      refine World.ownsRow.alloc ?_ _
      exact ownsRow_setCell_other HR2.out (fun e => by simp [Value.ownBlock] at e; omega) _
    intro w6 hown6 hgrow6
    have m3 : MT w.heap.size [30] W2 ((W2.setCell ⟨Bx, 0, none⟩ (.bool (!c.add))).alloc (.cells #[.bool (!c.add), .string ⟨c.rel.toArray⟩, .slice ua c.row.length uc] 30)) := (MT.setCell (MT.refl W2) HB2.out (by simp) (by omega) _).alloc _
    have m6 : MT w.heap.size [30] _ w6 := (MT.refl _).grown (v := .slice (some ⟨w.heap.size, 0, none⟩) k n) hgrow6 (show World.ownsRow _ w.heap.size 30 3 _ k rows.flatten from by
      refine World.ownsRow.alloc ?_ _
      exact ownsRow_setCell_other HR2.out (fun e => by simp [Value.ownBlock] at e; omega) _) (by simp) (Nat.le_refl _)
    have mm := m3.trans m6
    have hbx6 := HX2.out.mt mm (by decide)
    have mall := HM2.out.trans mm
    have hu6 := mm.ownsRow (show W2.ownsRow w.heap.size 74 3 (.slice ua c.row.length uc) c.row.length (c.row.map Vl.cells).flatten from HU2.out) (by decide)
    have p0 := hbx6.cell 0
    have p1 := hbx6.frozen 0
    have pl := hbx6.lt
    simp only [List.getElem?_toArray, List.getElem?_cons_zero] at p0
    have HP := Lib.hid (InvI.push (by rw [List.length_map]; exact HPL.out) hwz (by omega) HM.out.bel mall hbx6 HALL.out hu6 hown6)
    have HKO := Lib.hid (keeps_of_mt mall)
    have HKI : Hid (KInv w (w1.heap.size + 1) W (w6.setCell ⟨w1.heap.size, 0, none⟩ (.slice (some ⟨w.heap.size, 0, none⟩) (k + 1) n))) := Lib.hid ⟨(mall.below hwz).setCell (p := ⟨w1.heap.size, 0, none⟩) (by simp only; omega) _, fun _ => ((HBW.out.mt mall (by decide)).far (p := ⟨w1.heap.size, 0, none⟩) (by simp only; omega) _).trans HBW.out.symm⟩
    have HBW6 := Lib.hid ((HBW.out.mt mall (by decide)).far (p := ⟨w1.heap.size, 0, none⟩) (by simp only; omega) (.slice (some ⟨w.heap.size, 0, none⟩) (k + 1) n))
    have hsz6 := mall.size
    clear m3 m6 mm hbx6 mall hu6 hown6 hgrow6 y0 y1 y2 z0
    gi_wp2_with fail
    refine ⟨(HKO.out.trans (KeepsOthers.setCell _ _ _)).from _, HKI.out, ?_, by simp; omega, HBW6.out⟩
    rw [List.map_append]
    exact HP.out
  case done =>
    rintro D xs W hD hxs hm hK
    have hll : (xs.map (fun x : BT w => flipC x.c)) = invB b := by
      have : xs.map (fun x : BT w => flipC x.c) = (xs.map BT.c).map flipC := by rw [List.map_map]; rfl
      rw [this, hxs, invB, List.map_reverse]
    rw [hll] at hm
    have p0 := hm.1.box.cell 0
    have pl := hm.1.box.lt
    simp only [List.getElem?_toArray, List.getElem?_cons_zero] at p0
    have HM := Lib.hid hm.1
    have HK := Lib.hid hK
    clear hm hK hll hxs
    gi_wp2_with fail
    have hK' := HK.out
    have hown' := HM.out.own.kept (grownBy_putObj' _ D (.deferred none)) (fun r e => by cases e; exact ⟨_, hK', rfl⟩)
    refine ⟨by simp, .inl ⟨_, _, rfl, run_takeDeferred hK', ?_⟩⟩
    refine ⟨.slice (some ⟨w.heap.size, 0, none⟩) (invB b).length n, ?_, _, rfl, ?_, HM.out.bel.trans (belowK_b (w := w) (Nat.le_refl _) _ D _ _ (by have := HB0.out.size; omega) hK' rfl rfl)⟩
    · simp [results, Tryz.f20, go_sem]
    · rw [HRES.out]
      exact hown'
  case stop =>
    rintro D c pre W hD hpre hF hK
    exact hF.elim
end Go.Proofs.YtgjknekoehfdfaaGreatDoor
namespace Go.Proofs.YtgjknekoehfdfaaGreatDoor
open Go.RowKit
set_option linter.unusedVariables false

theorem flat_set {sz : Nat} (hz : 0 < sz) : ∀ (rows : List (List Value)) (j : Nat) (x : List Value) (u : Value), (∀ y ∈ rows, y.length = sz) → rows[j]? = some x → rows.flatten.set (j * sz) u = (rows.set j (x.set 0 u)).flatten
  | [], j, x, u, _, h => by simp at h
  | a :: l, 0, x, u, hl, h => by
    simp at h
    subst h
    have ha := hl a List.mem_cons_self
    rw [List.flatten_cons, Nat.zero_mul, List.set_append_left _ _ (by omega)]
    rfl
  | a :: l, j + 1, x, u, hl, h => by
    have ha := hl a List.mem_cons_self
    have ih := flat_set hz l j x u (fun y hy => hl y (List.mem_cons_of_mem _ hy)) (by simpa using h)
    rw [List.flatten_cons, List.set_append_right _ _ (by rw [ha, Nat.succ_mul]; omega), List.set_cons_succ, List.flatten_cons, ← ih]
    congr 2
    rw [ha, Nat.succ_mul]
    omega
theorem drop_set {α : Type} {l : List α} {m : Nat} {x : α} (h : m < l.length) : (l.set m x).drop m = x :: l.drop (m + 1) := by
  rw [List.drop_eq_getElem_cons (by rw [List.length_set]; exact h), List.getElem_set_self, List.drop_set_of_lt (by omega)]
theorem inv_get {b : List Chg} {k m : Nat} {c : Chg} (h : b[k]? = some c) (hm : m + 1 + k = b.length) : (invB b).drop m = flipC c :: (invB b).drop (m + 1) := by
  have hk := (List.getElem?_eq_some_iff.1 h).1
  have hx : (invB b)[m]? = some (flipC c) := by
    unfold invB
    rw [List.getElem?_reverse (by rw [List.length_map]; omega), List.length_map, show b.length - 1 - m = k by omega, List.getElem?_map, h]
    rfl
  rw [List.drop_eq_getElem_cons (List.getElem?_eq_some_iff.1 hx).1, (List.getElem?_eq_some_iff.1 hx).2]

set_option maxHeartbeats 8000000 in
set_option maxRecDepth 100000 in
theorem refInv_any (w : World) (v : Value) (l : List Chg) (h : ChgsAt w v l) (hn : l.length ≤ 2932031007402) :
    Calls Tryz.prog 22 #[v] w fun e w' => ∃ v', e = .returned v' ∧ ChgsOwn w.heap.size w' v' (invB l) ∧ Below w.heap.size w w' := by
  obtain ⟨ic, hic, hc0, hc1, hc2⟩ := info_parts Tryz.infoCg
  have hcp := copyB_any w v l h hn
  have hrl := h.rows
  obtain ⟨ad, cap, rfl, hnc, hcm⟩ := h.form
  unfold maxLen at hcm
  have HCP := Lib.hid hcp
  have HRLN := Lib.hid hrl
  obtain ⟨R, hR⟩ : ∃ R, R = invB l := ⟨_, rfl⟩
  have HRR := Lib.hid hR
  have hRl : R.length = l.length := by rw [hR, inv_len]
  rw [← hR]
  have HRL := Lib.hid hRl
  clear h hcp hR hRl hrl
  generalize hN : l.length = n at *
  have HN := Lib.hid hN
  clear hN
  go_enter Tryz.func22, Tryz.ntmps22
  go_wp2_with fail
  refine HCP.out.mono ?_
  rintro e w1 ⟨cv, rfl, hown1, hb1⟩
  have hat := hown1.at (by rw [HN.out]; omega) HRLN.out
  obtain ⟨ca, cc, rfl, _, hccm⟩ := hat.form
  obtain ⟨rows1, hr1, hal1⟩ := hown1
  rw [HN.out] at hat hr1
  have HAT := Lib.hid hat
  have HB1 := Lib.hid hb1
  have HAL1 := Lib.hid hal1
  have hw1 := hb1.size
  rw [HN.out]
  have HR1 := Lib.hid hr1
  clear hat hb1 hal1 hr1 HCP
  unfold maxLen at hccm
  go_wp2_with (at_make; refine wpList_make_full _ rfl _ _ 22 rfl w.heap.size 30 ic (.agg #[.bool false, .string ⟨#[]⟩, .slice none 0 0]) 3 Tryz.underlying22 hic hc0 hc1 _ _ _ _ n rfl rfl rfl rfl ?b2 ?b3 ?b4 ?_)
  case b2 => rw [hc2]; omega
  case b3 => unfold maxLen; omega
  case b4 => omega
  intro w5 hown5 hgrow5
  obtain ⟨rows0, hr0, hr1, hr2⟩ := split_rows 3 n _ hown5.1
  rw [← hr2] at hown5
  have hb5 : Below w1.heap.size w1 w5 := Below.grown (Below.refl _ _) hgrow5 (Nat.le_refl _) (fun q hq => by cases hq)
  have HO5 := Lib.hid hown5
  have HB5 := Lib.hid hb5
  have HRW := Lib.hid (And.intro hr0 hr1)
  clear hown5 hgrow5 hb5 hr0 hr1 hr2
  go_wp2_with fail
  go_loopw [5] (fun i wr => ∃ (k m : Nat) (rows : List (List Value)), m + k = n ∧ i = .int .i64 k ∧ Hid (wr.ownsRow w.heap.size 30 3 (.slice (some ⟨w1.heap.size, 0, none⟩) n n) n rows.flatten) ∧ Hid (rows.length = n ∧ ∀ x ∈ rows, x.length = 3) ∧ Hid (All2 (ChgO w.heap.size wr) (rows.drop m) (R.drop m)) ∧ Hid (Below w1.heap.size w1 wr)) (fun i _ => n - (intOf i).toNat)
  case atStart => exact ⟨0, n, rows0, rfl, rfl, HO5, HRW, Lib.hid (by rw [List.drop_eq_nil_of_le (by rw [HRW.out.1]; exact Nat.le_refl _), List.drop_eq_nil_of_le (by rw [HRL.out]; exact Nat.le_refl _)]; trivial), HB5⟩
  case round =>
    obtain ⟨k, m0, rows, hk, rfl, OW, RL, AL, BW⟩ := hrel
    obtain ⟨wo, rfl⟩ : ∃ wo : World, wo = wr := ⟨_, rfl⟩
    cases m0 with
    | succ m =>
      have hkn : k < n := by omega
      obtain ⟨c, hc⟩ : ∃ c, l[k]? = some c := ⟨l[k]'(by rw [HN.out]; exact hkn), List.getElem?_eq_getElem (by rw [HN.out]; exact hkn)⟩
      obtain ⟨row1, hrow1, rv, rfl, hrv⟩ := HAL1.out.get hc
      obtain ⟨ra, rc, rfl⟩ := own_sl hrv
      have ho1 := (MT.ofBelow (B := 0) (Ts := []) BW.out).ownsRow HR1.out (by simp)
      obtain ⟨g1, cap1, hv, _, hg1⟩ := ho1.form (by omega)
      have hg2 := HR1.out.lt g1 (by rw [hv]; rfl)
      simp only [Value.slice.injEq, true_and] at hv
      obtain ⟨rfl, rfl⟩ := hv
      have hl1 : ∀ x ∈ rows1, x.length = 3 := fun x hx => by
        obtain ⟨a, _, rv, rfl, _⟩ := all2_mem HAL1.out x hx
        rfl
      have q0 := (ho1.cellAt (k * 3) (by omega)).trans (by simpa using flatten_at hl1 hrow1 (j := 0) rfl)
      have q1 := (ho1.cellAt (k * 3 + 1) (by omega)).trans (flatten_at hl1 hrow1 (j := 1) rfl)
      have q2 := (ho1.cellAt (k * 3 + 2) (by omega)).trans (flatten_at hl1 hrow1 (j := 2) rfl)
      have hmn : m < n := by omega
      have e1 : (n : Int) - 1 - (k : Int) = (m : Int) := by omega
      have hdk : decide ((k : Int) < 0) = false := by simp
      have hdn : decide ((n : Int) ≤ (k : Int)) = false := by simp; omega
      have hdm : decide ((m : Int) < 0) = false := by simp
      have hdm2 : decide ((n : Int) ≤ (m : Int)) = false := by simp; omega
      have hir := inv_get hc (by rw [HN.out]; omega)
      rw [← HRR.out] at hir
      have hrv2 := (MT.ofBelow (B := 0) (Ts := []) BW.out).ownsRow hrv (by simp)
      have HIR := Lib.hid hir
      have HRV := Lib.hid hrv2
      have HO1K := Lib.hid ho1
      have hbw := BW.out.size
      clear hc hrow1 hrv ho1 hir hrv2 hl1
      generalize hRN : c.row.length = rn at *
      have HRN := Lib.hid hRN
      clear hRN
      go_wp2_with (refine wpList_store_elem rfl 30 _ _ rfl w1.heap.size m 30 3 w.heap.size n n rows _ rfl rfl OW.out RL.out.2 RL.out.1 hmn rfl (by kernel_rfl) (by simp [Value.oneCell']) ?_)
      intro w7 h7 m7 z7
      have q07 := (m7.cell (p := ⟨g1, k * 3, none⟩) hg1 (by simp only; omega)).trans q0
      obtain ⟨⟨y0, hy0⟩, hz0, hgl⟩ := own_cell h7 hmn (j := 0) (by decide)
      simp only [Nat.add_zero] at hy0 hz0
      have hg17 : g1 < w7.heap.size := by omega
      have H7 := Lib.hid h7
      have M7 := Lib.hid m7
      clear h7 m7 z7 q0 q1 q2
      have hrn : c.row.length = rn := HRN.out
      have hst := (H7.out.stored (m * 3) (.bool (!c.add))).1
      have hset : (rows.set m [.bool c.add, .string ⟨c.rel.toArray⟩, .slice ra rn rc])[m]? = some [.bool c.add, .string ⟨c.rel.toArray⟩, .slice ra rn rc] := List.getElem?_set_self (by rw [RL.out.1]; exact hmn)
      rw [flat_set (by decide) _ m _ _ (set_all RL.out.2 rfl) hset, List.set_set] at hst
      have mst : Mod (fun j => j = w1.heap.size) w7 (w7.setCell ⟨w1.heap.size, m * 3, none⟩ (.bool (!c.add))) := (Mod.refl (fun k => k = w1.heap.size) w7).setCell (p := ⟨w1.heap.size, m * 3, none⟩) (fun _ => rfl) _
      have mtt := (mt_own (Ts := [30]) M7.out OW.out (by simp)).trans (mt_own (Ts := [30]) mst H7.out (by simp))
      have hall : All2 (ChgO w.heap.size (w7.setCell ⟨w1.heap.size, m * 3, none⟩ (.bool (!c.add)))) ((rows.set m [.bool (!c.add), .string ⟨c.rel.toArray⟩, .slice ra rn rc]).drop m) (R.drop m) := by
        rw [drop_set (by rw [RL.out.1]; exact hmn), HIR.out]
        refine ⟨⟨_, rfl, ?_⟩, AL.out.mono fun q a hh => hh.mt mtt (by decide)⟩
        show World.ownsRow _ _ _ _ _ c.row.length (c.row.map Vl.cells).flatten
        rw [hrn]
        exact mtt.ownsRow HRV.out (by decide)
      have HS := Lib.hid hst
      have HAL := Lib.hid hall
      have HB7 := Lib.hid (Mod.own (Mod.own BW.out M7.out (Nat.le_refl _)) mst (Nat.le_refl _))
      clear hst hset mst mtt hall hrn
      go_wp2_with fail
      go_roundw
      case rel => exact ⟨k + 1, m, _, by omega, by go_num, HS, Lib.hid ⟨by rw [List.length_set]; exact RL.out.1, set_all RL.out.2 rfl⟩, HAL, HB7⟩
      case measure => simp [intOf]; omega
    | zero =>
      obtain rfl : k = n := by omega
      have hal := AL.out
      simp only [List.drop_zero] at hal
      have HAL := Lib.hid hal
      clear hal
      go_wp2_with fail
      go_ret
      exact ⟨_, rfl, ⟨rows, by rw [HRL.out]; exact OW.out, HAL.out⟩, HB1.out.trans (BW.out.mono hw1)⟩
end Go.Proofs.YtgjknekoehfdfaaGreatDoor
