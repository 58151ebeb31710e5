/- change.Invert, walked. -/
import Derived.Test.YtgilflkgibfjgaaDoorInv0Z
import Derived.Test.YtgilflkgibfjgaaDoorGr
import Derived.Test.YtgilflkgibfjgaaDoorGg
import Derived.OwnWalkIn
namespace Go.Proofs.YtgilflkgibfjgaaDoor
open Go.RowKit Go.Shelf
attribute [local go_sem] Oper.semAt_some
set_option linter.unusedVariables false

theorem Tryd.infoCg : (Tryd.prog.info? 56).map (fun i => (i.zero, i.size, i.bytes)) = some (some (.agg #[.bool false, .string ⟨#[]⟩, .slice none 0 0]), 3, 48) := by kernel_rfl
section
variable {W W' : World}
theorem own_kept {row : Option Nat} {base : Nat} {e : TypeId} {size n : Nat} {v : Value} {xs : List Value} (h : W.ownsRow base e size v n xs) (hg : W.grownBy W' row) (hr : ∀ r, row = some r → ∃ o : Obj, W.heap[r]? = some o ∧ o.isCells = false) : W'.ownsRow base e size v n xs := by
  refine h.kept hg ?_
  rcases h.2 with ⟨rfl, _⟩ | ⟨g, cap, cur, rfl, _, hh, _⟩
  · exact .inl rfl
  · right
    intro e1
    obtain ⟨o, ho, hc⟩ := hr g e1.symm
    rw [hh] at ho
    cases ho
    cases hc
theorem blk_kept {row : Option Nat} {g : Nat} {t : TypeId} {cs : Array Value} (h : Blk W g t cs) (hg : W.grownBy W' row) (hr : ∀ r, row = some r → ∃ o : Obj, W.heap[r]? = some o ∧ o.isCells = false) : Blk W' g t cs := by
  refine h.grown hg ?_
  intro e1
  obtain ⟨o, ho, hc⟩ := hr g e1.symm
  rw [show W.heap[g]? = _ from h] at ho
  cases ho
  cases hc
theorem ChgsOwn.kept {row : Option Nat} {B : Nat} {v : Value} {l : List Chg} (h : ChgsOwn B W v l) (hg : W.grownBy W' row) (hr : ∀ r, row = some r → ∃ o : Obj, W.heap[r]? = some o ∧ o.isCells = false) : ChgsOwn B W' v l := by
  obtain ⟨rows, h1, h2⟩ := h
  exact ⟨rows, own_kept h1 hg hr, h2.mono fun b a ⟨rv, e, h3⟩ => ⟨rv, e, own_kept h3 hg hr⟩⟩
theorem keeps_of_below (h : Below W.heap.size W W') : KeepsOthers W W' := ⟨h.size, fun k o hk _ => (h.block k (Array.getElem?_eq_some_iff.1 hk).1).trans hk⟩
theorem keeps_of_mt {B : Nat} {Ts : List TypeId} (h : MT B Ts W W') : KeepsOthers W W' := ⟨h.size, fun k o hk hc => (Mod.block h k (Array.getElem?_eq_some_iff.1 hk).1 (fun ⟨_, cs, t, fr, h1, _⟩ => by
  rw [hk] at h1
  cases h1
  cases hc)).trans hk⟩
end
theorem wpListIn_store_blk {F : Fence} {nF : Nat} {P : Program} {ops : Array Oper} {rest : List Oper} {op : Oper} {a : Act} {w : World} {Q : Exit → Act → World → Prop} (hgd : op.guard = none) (ty : TypeId) (x y : Operand) (ho : op.op = .store ty x y)
    (b : Nat) (t : TypeId) (cs0 cells : Array Value) (hx : a.eval x = .pointer (some ⟨b, 0, none⟩)) (hy : a.eval y = .agg cells) (hb : Blk w b t cs0)
    (hi : (P.info? ty).map (·.size) = some cells.size) (hsz : cs0.size = cells.size) (h1 : cells.all (·.oneCell') = true)
    (h : ∀ w', Blk w' b t cells → Mod (fun k => k = b) w w' → w'.heap.size = w.heap.size → wpListIn F nF P ops Q rest (a.put op.dst undef) w') : wpListIn F nF P ops Q (op :: rest) a w := by
  refine wpListIn_plain hgd fun K hK => ?_
  unfold Oper.wpIn
  refine ⟨by simp [Oper.about, ho], ?_⟩
  rw [Oper.semAt_plain F _ _ (by rw [ho]; intro c hc'; cases hc')]
  simp only [execOp, ho, hx, hy, Instr.storeAt, Instr.sureAddr, Sem.run_bind, Sem.run_pure, Result.andThen_ok, run_storeVar_row (P := P) w b t ty cs0 cells hb hi hsz h1]
  exact hK _ _ (h _ (blk_setRow hb) (mod_setRow w b cells) (by simp [World.setRow]))

/-- Between two rounds: the box holds the changes so far, turned round. -/
structure InvI (w W : World) (bo n : Nat) (l : List Chg) : Prop where
  box : Blk W bo 50 #[.slice (some ⟨w.heap.size, 0, none⟩) l.length n]
  own : ChgsOwn w.heap.size W (.slice (some ⟨w.heap.size, 0, none⟩) l.length n) l
  bel : Below w.heap.size w W
theorem InvI.keep {w W W' : World} {bo n : Nat} {l : List Chg} (h : InvI w W bo n l) (hb : Below W.heap.size W W') : InvI w W' bo n l :=
  ⟨h.box.below hb h.box.lt, h.own.mt (MT.ofBelow (B := 0) (Ts := []) hb) (by simp) (by simp), h.bel.trans (hb.mono h.bel.size)⟩
theorem InvI.kept {w W W' : World} {bo n : Nat} {l : List Chg} {row : Option Nat} (h : InvI w W bo n l) (hg : W.grownBy W' row) (hr : ∀ r, row = some r → w.heap.size ≤ r ∧ ∃ o : Obj, W.heap[r]? = some o ∧ o.isCells = false) : InvI w W' bo n l :=
  ⟨blk_kept h.box hg (fun r e => (hr r e).2), h.own.kept hg (fun r e => (hr r e).2), h.bel.trans (((Mod.refl (fun k => row = some k) _).grown hg (fun k hk _ => hk)).below h.bel.size (fun k hk => (hr k hk).1))⟩

theorem InvI.push {w W w6 : World} {bo n k : Nat} {l : List Chg} {c : Chg} {rows : List (List Value)} {ua : Option Addr} {uc : Nat} (hk : l.length = k) (hwz : w.heap.size ≤ W.heap.size) (hbo : w.heap.size ≤ bo) (hbel : Below w.heap.size w W) (m : MT w.heap.size [56] W w6)
    (hbox : Blk w6 bo 50 #[.slice (some ⟨w.heap.size, 0, none⟩) k n]) (hall : All2 (ChgO w.heap.size W) rows l) (hu : w6.ownsRow w.heap.size 45 3 (.slice ua c.row.length uc) c.row.length (c.row.map Vl.cells).flatten)
    (hown : w6.ownsRow w.heap.size 56 3 (.slice (some ⟨w.heap.size, 0, none⟩) (k + 1) n) (k + 1) (rows.flatten ++ [.bool (!c.add), .string ⟨c.rel.toArray⟩, .slice ua c.row.length uc])) :
    InvI w (w6.setCell ⟨bo, 0, none⟩ (.slice (some ⟨w.heap.size, 0, none⟩) (k + 1) n)) bo n (l ++ [flipC c]) := by
  have hl : (l ++ [flipC c]).length = k + 1 := by simp [hk]
  have m2 : MT w.heap.size [50] w6 (w6.setCell ⟨bo, 0, none⟩ (.slice (some ⟨w.heap.size, 0, none⟩) (k + 1) n)) := MT.setCell (MT.refl w6) hbox (by simp) hbo _
  refine ⟨by rw [hl]; simpa using hbox.set_ 0 _, ?_, (hbel.trans (m.below hwz)).trans (m2.below (Nat.le_trans hwz m.size))⟩
  rw [hl]
  refine ⟨rows ++ [[.bool (!c.add), .string ⟨c.rel.toArray⟩, .slice ua c.row.length uc]], ?_, ?_⟩
  · rw [hl, List.flatten_append]
    exact m2.ownsRow (by simpa using hown) (by decide)
  · exact All2.snoc ⟨_, rfl, m2.ownsRow hu (by decide)⟩ (hall.mono fun q a hh => (hh.mt m (by decide)).mt m2 (by decide))

set_option maxRecDepth 100000 in
set_option maxHeartbeats 16000000 in
theorem invert_any (w : World) (v : Value) (b : List Chg) (h : ChgsAt w v b) (hn : b.length ≤ 2932031007402) :
    Calls Tryd.prog 49 #[v] w fun e w' => ∃ v', e = .returned v' ∧ ChgsOwn w.heap.size w' v' (invB b) ∧ Below w.heap.size w w' := by
  obtain ⟨ic, hic, hc0, hc1, hc2⟩ := info_parts Tryd.infoCg
  obtain ⟨sa, sc, rfl, hnc, hcm⟩ := h.form
  have hln := h.len
  have HR := Lib.hid h
  clear h
  obtain ⟨R, hR⟩ : ∃ R, R = invB b := ⟨_, rfl⟩
  rw [← hR]
  have HRES := Lib.hid hR
  clear hR
  refine (callsIn_wide (n := 9)).1 ?_
  refine callsIn_of_wp_marks Tryd.func49 rfl trivial ?_ rfl
  simp only [Tryd.ntmps49, List.size_toArray, List.length_cons, List.length_nil, Nat.reduceAdd, Nat.reduceSub, Array.replicate_succ, Array.replicate_zero, List.push_toArray, List.append_toArray, List.nil_append, List.cons_append]
  generalize hN : b.length = n at *
  have HN := Lib.hid hN
  clear hN
  unfold maxLen at hcm
  gi_wp2_with (gi_at_make; refine wpListIn_make_own _ rfl _ _ 50 rfl w.heap.size 56 ic (.agg #[.bool false, .string ⟨#[]⟩, .slice none 0 0]) 3 Tryd.underlying50 hic hc0 hc1 _ _ _ n rfl rfl rfl ?b2 ?b3 ?b4 ?_)
  case b2 => rw [hc2]; omega
  case b3 => unfold maxLen; omega
  case b4 => omega
  intro w1 hown1 hgrow1
  have hb1 : Below w.heap.size w w1 := Below.grown (Below.refl _ _) hgrow1 (Nat.le_refl _) (fun q hq => by cases hq)
  have hz1 := hb1.size
  have HO1 := Lib.hid hown1
  have HB1 := Lib.hid hb1
  clear hown1 hgrow1 hb1
  gi_wp2_with fail
  refine ⟨trivial, ?_⟩
  refine (callsIn_wide.2 (back_any _ _ _ _)).mono ?_
  rintro e w2 ⟨rfl, rfl⟩
  gi_wp2_with fail
  obtain ⟨W0, hW0⟩ : ∃ W0, (w1.alloc (.cells #[.slice (some ⟨w.heap.size, 0, none⟩) 0 n] 50)).alloc (.cells #[.slice sa n sc] 50) = W0 := ⟨_, rfl⟩
  have hz0 : W0.heap.size = w1.heap.size + 1 + 1 := by rw [← hW0]; simp
  have hb0 : Below w.heap.size w W0 := by rw [← hW0]; exact balloc (balloc HB1.out _) _
  have hbs : Blk W0 (w1.heap.size + 1) 50 #[.slice sa n sc] := by rw [← hW0]; exact blkNew1 _ _ _ _
  have hm0 : InvI w W0 w1.heap.size n [] := by
    rw [← hW0]
    exact ⟨(Blk.new w1 50 #[.slice (some ⟨w.heap.size, 0, none⟩) 0 n]).alloc _, ⟨[], by simpa using (HO1.out.alloc _).alloc _, trivial⟩, balloc (balloc HB1.out _) _⟩
  have HB0 := Lib.hid hb0
  have HBS := Lib.hid hbs
  have HM0 := Lib.hid hm0
  have HZ0 := Lib.hid hz0
  rw [hW0]
  clear hW0 hb0 hbs hm0 hz0
  refine wpIn_rangeFunc_ownH (α := BT w) rfl (by omega) (gf := 129) (lb := #[.pointer (some ⟨w1.heap.size + 1, 0, none⟩)]) rfl trivial (enters_of Tryd.func129 (by kernel_rfl) rfl)
    (back_stops 8 (by omega) (w1.heap.size + 1) w W0 _ b HR.out HB0.out HBS.out) (fun h k => h.trans k) (KInv.put HB0.out.size (by rw [HZ0.out]; omega)) (Below.refl _ _) (fun _ => rfl)
    (fun pre W => InvI w W w1.heap.size n (pre.map (fun x : BT w => flipC x.c)) ∧ w1.heap.size + 1 < W.heap.size ∧ Blk W (w1.heap.size + 1) 50 #[.slice sa n sc])
    (fun c pre _ => False)
    (fun pre A B row hs hg hr => ⟨hs.1.kept hg (fun r e => ⟨by have := (hr r e).1; have := HB0.out.size; omega, (hr r e).2⟩), Nat.lt_of_lt_of_le hs.2.1 hg.size, blk_kept hs.2.2 hg (fun r e => (hr r e).2)⟩)
    (fun c pre A B row hs _ _ => hs)
    ⟨HM0.out, by rw [HZ0.out]; omega, HBS.out⟩
    (fun x a' W => ∃ Bx, Blk W Bx 56 #[.bool x.c.add, .string ⟨x.c.rel.toArray⟩, x.rv] ∧ w1.heap.size + 1 < Bx ∧ a' = { tmps := #[.slice sa n sc, undef, .slice none 0 0, .pointer (some ⟨w1.heap.size, 0, none⟩), undef, .pointer (some ⟨Bx, 0, none⟩), .slice sa n sc, .int .i64 (n : Int), .slice (some ⟨w.heap.size, 0, none⟩) 0 n, .slice sa n sc,
      .func (.func 129) #[] #[.pointer (some ⟨w1.heap.size + 1, 0, none⟩)], .int .i64 (x.i : Int), .agg #[.bool x.c.add, .string ⟨x.c.rel.toArray⟩, x.rv], undef, undef, undef, undef, undef, undef, undef, undef, undef, undef, undef], defers := [] })
    (fun x a' _ A B row hs hg hr => by obtain ⟨Bx, h1, h2, h3⟩ := hs; exact ⟨Bx, blk_kept h1 hg (fun r e => (hr r e).2), h2, h3⟩)
    ?assign ?body ?done ?stop
  case assign =>
    rintro l pre ⟨i, c, rv, hat, hsm⟩ W K hi' hK
    obtain ⟨ra, rc, hrv, _, _⟩ := hat.form
    rw [List.length_map] at hrv
    subst hrv
    have HI' := Lib.hid hi'
    have HK := Lib.hid hK
    have hwz := hi'.1.bel.size
    clear hi' hK
    simp only [encBT]
    gi_wp2_with fail
    exact HK.out _ _ ((KeepsOthers.alloc _ _).from _) (KInv.below hwz (balloc (Below.refl _ _) _)) ⟨HI'.out.1.keep (balloc (Below.refl _ _) _), by have := HI'.out.2.1; simp; omega, HI'.out.2.2.alloc _⟩ ⟨W.heap.size, Blk.new W _ _, HI'.out.2.1, rfl⟩
  case body =>
    rintro l pre ⟨i, c, rv, hat, hsm⟩ a' W hlw ⟨r, hr⟩ hm ⟨Bx, hB, hBx, rfl⟩ hlen
    obtain ⟨ra, rc, hrv, _, _⟩ := hat.form
    rw [List.length_map] at hrv
    subst hrv
    obtain ⟨hm, hlb, hbsW⟩ := hm
    have HBW := Lib.hid hbsW
    clear hbsW
    have hbox := hm.box
    obtain ⟨rows, hrows, hall⟩ := hm.own
    rw [List.length_map] at hrows hbox
    have hlen' : pre.length < n := by rw [← HN.out]; exact hlen
    have hcl := cclone_any W c.add ⟨c.rel.toArray⟩ _ c.row (hat.keep hm.bel) hsm
    have hwz := hm.bel.size
    have x0 := hB.cell 0
    have x1 := hB.cell 1
    have x2 := hB.cell 2
    have xl := hB.lt
    simp only [List.getElem?_toArray, List.getElem?_cons_zero, List.getElem?_cons_succ] at x0 x1 x2
    have HCL := Lib.hid hcl
    have HB := Lib.hid hB
    have HM := Lib.hid hm
    have HBOX := Lib.hid hbox
    have HROWS := Lib.hid hrows
    have HALL := Lib.hid hall
    have HHR := Lib.hid hr
    have HHL := Lib.hid hlw
    clear hcl hB hm hbox hrows hall hr hlw hlen
    generalize hPL : pre.length = k at *
    have HPL := Lib.hid hPL
    clear hPL
    gi_wp2_with fail
    refine ⟨trivial, ?_⟩
    refine (CallsIn.inRound l (callsIn_wide.2 HCL.out)).mono ?_
    rintro e W1 ⟨u1, rfl, hown1, hb1⟩
    obtain ⟨ua, uc, rfl⟩ := own_sl hown1
    have HB1 := Lib.hid (HB.out.below hb1 HB.out.lt)
    have HW1 := Lib.hid hb1
    have HU1 := Lib.hid (World.ownsRow.low hown1 hwz)
    clear hown1 hb1 x0 x1 x2 xl HCL
    gi_wp2_with (refine wpListIn_store_blk rfl 56 _ _ rfl Bx 56 _ _ rfl rfl HB1.out (by kernel_rfl) rfl (by simp [Value.oneCell']) ?_)
    intro W2 hb2 hm2 hz2
    have m2 : MT w.heap.size [56] W W2 := (MT.ofBelow HW1.out).trans (MT.ofMod hm2 HB1.out (by simp) (by omega))
    have y0 := hb2.cell 0
    have y1 := hb2.cell 1
    have y2 := hb2.cell 2
    have z0 := hb2.frozen 0
    have yl := hb2.lt
    have hbx := HBOX.out.mt m2 (by decide)
    have p0 := hbx.cell 0
    have p1 := hbx.frozen 0
    have pl := hbx.lt
    simp only [List.getElem?_toArray, List.getElem?_cons_zero, List.getElem?_cons_succ] at y0 y1 y2 p0
    have hne : w1.heap.size ≠ Bx := by omega
    have hne2 : Bx ≠ w1.heap.size := by omega
    have hrow2 : W2.ownsRow w.heap.size 56 3 (.slice (some ⟨w.heap.size, 0, none⟩) k n) k rows.flatten := by
      have h1 := (MT.ofBelow (B := 0) (Ts := []) HW1.out).ownsRow HROWS.out (by simp)
      refine hm2.ownsRow h1 (fun q hq => ?_)
      simp [Value.ownBlock] at hq
      omega
    have HB2 := Lib.hid hb2
    have HM2 := Lib.hid m2
    have HR2 := Lib.hid hrow2
    have HX2 := Lib.hid hbx
    have hu2 : W2.ownsRow w.heap.size 45 3 (.slice ua c.row.length uc) c.row.length (c.row.map Vl.cells).flatten := (MT.ofMod hm2 HB1.out (by simp : 56 ∈ [56]) (Nat.zero_le _)).ownsRow HU1.out (by decide)
    have HU2 := Lib.hid hu2
    clear hu2
    clear hb2 hm2 hz2 m2 hbx hrow2
    gi_wp2_with (refine wpListIn_append_fits _ rfl (.tmp 19) (.tmp 21) 50 rfl w.heap.size 56 ic 3 Tryd.underlying50 hic hc1 w.heap.size k n rows.flatten rfl ?c6 ⟨_, 0, none⟩ 1 1 [.bool (!c.add), .string ⟨c.rel.toArray⟩, .slice ua c.row.length uc] rfl rfl ?c7 (by simp [Value.oneCell']) ?c3 ?_)
    case c7 => exact World.news_of_block (blkNewS _ _ _ _ _)
    case c3 => omega
    case c6 =>
      refine World.ownsRow.alloc ?_ _
      exact ownsRow_setCell_other HR2.out (fun e => by simp [Value.ownBlock] at e; omega) _
    intro w6 hown6 hgrow6
    have m3 : MT w.heap.size [56] W2 ((W2.setCell ⟨Bx, 0, none⟩ (.bool (!c.add))).alloc (.cells #[.bool (!c.add), .string ⟨c.rel.toArray⟩, .slice ua c.row.length uc] 56)) := (MT.setCell (MT.refl W2) HB2.out (by simp) (by omega) _).alloc _
    have m6 : MT w.heap.size [56] _ w6 := (MT.refl _).grown (v := .slice (some ⟨w.heap.size, 0, none⟩) k n) hgrow6 (show World.ownsRow _ w.heap.size 56 3 _ k rows.flatten from by
      refine World.ownsRow.alloc ?_ _
      exact ownsRow_setCell_other HR2.out (fun e => by simp [Value.ownBlock] at e; omega) _) (by simp) (Nat.le_refl _)
    have mm := m3.trans m6
    have hbx6 := HX2.out.mt mm (by decide)
    have mall := HM2.out.trans mm
    have hu6 := mm.ownsRow (show W2.ownsRow w.heap.size 45 3 (.slice ua c.row.length uc) c.row.length (c.row.map Vl.cells).flatten from HU2.out) (by decide)
    have p0 := hbx6.cell 0
    have p1 := hbx6.frozen 0
    have pl := hbx6.lt
    simp only [List.getElem?_toArray, List.getElem?_cons_zero] at p0
    have HP := Lib.hid (InvI.push (by rw [List.length_map]; exact HPL.out) hwz (by omega) HM.out.bel mall hbx6 HALL.out hu6 hown6)
    have HKO := Lib.hid (keeps_of_mt mall)
    have HKI : Hid (KInv w (w1.heap.size + 1) W (w6.setCell ⟨w1.heap.size, 0, none⟩ (.slice (some ⟨w.heap.size, 0, none⟩) (k + 1) n))) := Lib.hid ⟨(mall.below hwz).setCell (p := ⟨w1.heap.size, 0, none⟩) (by simp only; omega) _, fun _ => ((HBW.out.mt mall (by decide)).far (p := ⟨w1.heap.size, 0, none⟩) (by simp only; omega) _).trans HBW.out.symm⟩
    have HBW6 := Lib.hid ((HBW.out.mt mall (by decide)).far (p := ⟨w1.heap.size, 0, none⟩) (by simp only; omega) (.slice (some ⟨w.heap.size, 0, none⟩) (k + 1) n))
    have hsz6 := mall.size
    clear m3 m6 mm hbx6 mall hu6 hown6 hgrow6 y0 y1 y2 z0
    gi_wp2_with fail
    refine ⟨(HKO.out.trans (KeepsOthers.setCell _ _ _)).from _, HKI.out, ?_, by simp; omega, HBW6.out⟩
    rw [List.map_append]
    exact HP.out
  case done =>
    rintro D xs W hD hxs hm hK
    have hll : (xs.map (fun x : BT w => flipC x.c)) = invB b := by
      have : xs.map (fun x : BT w => flipC x.c) = (xs.map BT.c).map flipC := by rw [List.map_map]; rfl
      rw [this, hxs, invB, List.map_reverse]
    rw [hll] at hm
    have p0 := hm.1.box.cell 0
    have pl := hm.1.box.lt
    simp only [List.getElem?_toArray, List.getElem?_cons_zero] at p0
    have HM := Lib.hid hm.1
    have HK := Lib.hid hK
    clear hm hK hll hxs
    gi_wp2_with fail
    have hK' := HK.out
    have hown' := HM.out.own.kept (grownBy_putObj' _ D (.deferred none)) (fun r e => by cases e; exact ⟨_, hK', rfl⟩)
    refine ⟨by simp, .inl ⟨_, _, rfl, run_takeDeferred hK', ?_⟩⟩
    refine ⟨.slice (some ⟨w.heap.size, 0, none⟩) (invB b).length n, ?_, _, rfl, ?_, HM.out.bel.trans (belowK_b (w := w) (Nat.le_refl _) _ D _ _ (by have := HB0.out.size; omega) hK' rfl rfl)⟩
    · simp [results, Tryd.f49, go_sem]
    · rw [HRES.out]
      exact hown'
  case stop =>
    rintro D c pre W hD hpre hF hK
    exact hF.elim
end Go.Proofs.YtgilflkgibfjgaaDoor
