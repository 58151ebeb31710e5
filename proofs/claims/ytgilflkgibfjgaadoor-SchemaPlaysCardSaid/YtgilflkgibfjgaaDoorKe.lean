/- schema.Show, walked. osierref08.Copy, Same over the same, walked. osierlaw08.awake, walked. -/
import Derived.Test.YtgilflkgibfjgaaDoorKa
import Derived.Test.YtgilflkgibfjgaaDoorKb
import Derived.Test.YtgilflkgibfjgaaDoorGr
import Derived.Test.YtgilflkgibfjgaaDoorShelfJ
import Derived.Test.YtgilflkgibfjgaaDoorGm
import Derived.Test.YtgilflkgibfjgaaDoorGo
import Derived.Test.YtgilflkgibfjgaaDoorKd
import Derived.Deep.RegionLaw
import Derived.Deep.QuietTactic
import Derived.BigQuiet
import Derived.OwnWalk
import Derived.KernelRfl
namespace Go.Proofs.YtgilflkgibfjgaaDoor
open Go.RowKit
set_option linter.unusedVariables false

theorem Tryd.infoTx : (Tryd.prog.info? 9).map (fun i => (i.zero, i.size, i.bytes)) = some (some (.string ⟨#[]⟩), 1, 16) := by kernel_rfl

/-- The words while they are written. -/
def rowT (cs : List Col) (k : Nat) : List (List UInt8) := (cs.take k).map colT ++ (cs.drop k).map fun _ => []
theorem rowT_len (cs : List Col) (k : Nat) : (rowT cs k).length = cs.length := by
  unfold rowT
  simp
  omega
theorem rowT_set {cs : List Col} {k : Nat} {c : Col} (h : cs[k]? = some c) : (rowT cs k).set k (colT c) = rowT cs (k + 1) := by
  have hk := (List.getElem?_eq_some_iff.1 h).1
  have hl : ((cs.take k).map colT).length = k := by rw [List.length_map, List.length_take]; omega
  have e1 : (cs.take (k + 1)).map colT = (cs.take k).map colT ++ [colT c] := by
    rw [List.take_add_one, h]
    simp
  have e2 : cs.drop k = cs[k] :: cs.drop (k + 1) := List.drop_eq_getElem_cons hk
  unfold rowT
  rw [e1, e2, List.map_cons, List.set_append_right _ _ (by omega), hl, Nat.sub_self, List.set_cons_zero, List.append_assoc]
  rfl
theorem empties : ∀ l : List Col, List.replicate l.length [Value.string ⟨#[]⟩] = (l.map fun _ => ([] : List UInt8)).map strC
  | [] => rfl
  | _ :: l => by
    simp only [List.length_cons, List.replicate_succ, List.map_cons]
    rw [empties l]
    rfl
theorem rowT_zero (cs : List Col) : (madeCells #[.string ⟨#[]⟩] cs.length).toList = ((rowT cs 0).map strC).flatten := by
  have h := made_rows [.string ⟨#[]⟩] cs.length (by simp)
  rw [empties cs, show cs.length * ([Value.string ⟨#[]⟩] : List Value).length = cs.length from Nat.mul_one _] at h
  unfold rowT
  simp only [List.take_zero, List.map_nil, List.drop_zero, List.nil_append]
  exact h
theorem rowT_all (cs : List Col) : rowT cs cs.length = cs.map colT := by
  unfold rowT
  simp
theorem strC1 (l : List (List UInt8)) : ∀ x ∈ l.map strC, x.length = 1 := by
  intro x hx
  simp at hx
  obtain ⟨t, _, rfl⟩ := hx
  rfl
/-- A text stored into a row of the call's own. -/
theorem own_setText {w : World} {g k n cap base : Nat} {l : List (List UInt8)} {s : List UInt8} (hown : w.ownsRow base 9 1 (.slice (some ⟨g, 0, none⟩) n cap) n (l.map strC).flatten) (hn : l.length = n) (hk : k < n) :
    (w.setCell ⟨g, k, none⟩ (.string ⟨s.toArray⟩)).ownsRow base 9 1 (.slice (some ⟨g, 0, none⟩) n cap) n ((l.set k s).map strC).flatten ∧ Mod (fun j => j = g) w (w.setCell ⟨g, k, none⟩ (.string ⟨s.toArray⟩)) := by
  have h := own_setCells (cells := [.string ⟨s.toArray⟩]) hown (strC1 l) (by rw [List.length_map, hn]) hk (by intro v hv; simp at hv; subst hv; rfl)
  have e : w.setCells g (k * ([Value.string ⟨s.toArray⟩] : List Value).length) [.string ⟨s.toArray⟩] = w.setCell ⟨g, k, none⟩ (.string ⟨s.toArray⟩) := by
    simp [World.setCells]
  rw [e] at h
  rw [List.map_set]
  exact ⟨h.1, h.2.1⟩

theorem Mod.ownZ {b g : Nat} {w0 w w' : World} (hz : w0.heap.size = g) (h : Below g w0 w) (hm : Mod (fun k => k = b) w w') (hb : g ≤ b) : Below g w0 w' := by
  subst hz
  exact Mod.own h hm hb
theorem Blk.belowZ {g b : Nat} {w0 w : World} {t : TypeId} {cs : Array Value} (hz : w0.heap.size = g) (h : Blk w0 b t cs) (hb : Below g w0 w) : Blk w b t cs := by
  subst hz
  exact h.below hb h.lt
theorem Below.allocZ {g : Nat} {w0 w : World} (hz : w0.heap.size = g) (h : Below g w0 w) (o : Obj) : Below g w0 (w.alloc o) := by
  subst hz
  exact balloc h o
theorem text_cells {w : World} {g n cap base : Nat} {l : List (List UInt8)} (hown : w.ownsRow base 9 1 (.slice (some ⟨g, 0, none⟩) n cap) n (l.map strC).flatten) (hn : l.length = n) (j : Nat) (x : ByteArray) (hx : (l.map fun s => (⟨s.toArray⟩ : ByteArray))[j]? = some x) : w.cell? ⟨g, 0 + j, none⟩ = some (.string x) := by
  rw [List.getElem?_map] at hx
  cases hs : l[j]? with
  | none => rw [hs] at hx; simp at hx
  | some s =>
    rw [hs] at hx
    simp at hx
    subst hx
    have hj := (List.getElem?_eq_some_iff.1 hs).1
    have h1 := hown.cellAt j (by omega)
    have h2 := flatten_at (strC1 l) (i := j) (j := 0) (x := strC s) (u := .string ⟨s.toArray⟩) (by simp [hs]) rfl
    simp only [Nat.mul_one, Nat.add_zero] at h2
    rw [Nat.zero_add]
    exact h1.trans h2
theorem texts_back (l : List (List UInt8)) : (l.map fun s => (⟨s.toArray⟩ : ByteArray)).map (·.data.toList) = l := by
  rw [List.map_map]
  conv => rhs; rw [← List.map_id l]
  apply List.map_congr_left
  intro a _
  simp

set_option maxHeartbeats 2000000 in
set_option maxRecDepth 100000 in
theorem show_bad8 (w : World) (nm : ByteArray) (v : Value) (cs : List Col) (h : ColsAt w v cs) (hn : nm.size ≤ 140737488355328) (hc : ∀ c ∈ cs, c.x.length ≤ 140737488355328) (hk : chkC nm.data.toList cs ≠ 0) :
    Calls Tryd.prog 86 #[.agg #[.string nm, v]] w fun e w' => e = .returned (.string ⟨#[]⟩) ∧ Below w.heap.size w w' := by
  have hb0 : Below w.heap.size w (w.alloc (.cells #[.string nm, v] 64)) := balloc (Below.refl _ _) _
  have hch := check_any _ nm v cs (h.keep hb0) hn hc
  have q0 : (chkC nm.data.toList cs != 0) = true := by simpa using hk
  have HC := Lib.hid hch
  have HB0 := Lib.hid hb0
  clear hch hb0 h hn hc hk
  generalize chkC nm.data.toList cs = ch at *
  go_enter Tryd.func86, Tryd.ntmps86
  go_wp2_with fail
  refine HC.out.mono ?_
  rintro e w2 ⟨rfl, hb2⟩
  have HB2 := Lib.hid (HB0.out.trans (hb2.mono (by simp)))
  clear hb2
  go_wp2_with fail
  go_ret
  exact ⟨rfl, HB2.out⟩

set_option maxHeartbeats 8000000 in
set_option maxRecDepth 100000 in
theorem show_good8 (w : World) (nm : ByteArray) (v : Value) (cs : List Col) (h : ColsAt w v cs) (hk : chkC nm.data.toList cs = 0) :
    Calls Tryd.prog 86 #[.agg #[.string nm, v]] w fun e w' => e = .returned (.string ⟨(showC nm.data.toList cs).toArray⟩) ∧ Below w.heap.size w w' := by
  obtain ⟨i0, hi0, hz0, hz1, hz2⟩ := info_parts Tryd.infoTx
  obtain ⟨k1, k2, k3, k4⟩ := chkC_ok hk
  have hnl := nm_len k1
  have hsh := (show_len hk).2
  have hb0 : Below w.heap.size w (w.alloc (.cells #[.string nm, v] 64)) := balloc (Below.refl _ _) _
  have hbx := Blk.new w 64 #[.string nm, v]
  have hch := check_any _ nm v cs (h.keep hb0) (by have : nm.size = nm.data.toList.length := rfl; omega) (fun c hc => by have := nm_len (k2 c hc).1; omega)
  rw [hk] at hch
  obtain ⟨ad, cap, rfl, hnc, hcm⟩ := h.form
  have hnz : nm.size ≤ 16 := hnl.2
  have hcx : ∀ c ∈ cs, c.x.length ≤ 16 := fun c hc => (nm_len (k2 c hc).1).2
  have hjn : (Lib.join (rowT cs cs.length) [44, 32]).length ≤ 16384 ∧ showC nm.data.toList cs = nm.data.toList ++ [40] ++ Lib.join (rowT cs cs.length) [44, 32] ++ [41] := by
    have e : showC nm.data.toList cs = nm.data.toList ++ [40] ++ Lib.join (cs.map colT) [44, 32] ++ [41] := by
      unfold showC
      rw [if_pos hk]
    rw [rowT_all]
    rw [e] at hsh
    simp only [List.length_append] at hsh
    exact ⟨by omega, e⟩
  obtain ⟨hjl, hjs⟩ := hjn
  rw [hjs]
  have HR := Lib.hid h
  have HJL := Lib.hid hjl
  have HC := Lib.hid hch
  have HB0 := Lib.hid hb0
  have HBX := Lib.hid hbx
  have HCX := Lib.hid hcx
  have hrl := rowT_len cs
  have hr0 := rowT_zero cs
  have hrs := fun k c => rowT_set (cs := cs) (k := k) (c := c)
  have HRS := Lib.hid hrs
  clear h hch hb0 hbx k1 k2 k4 hk hsh hnl hjl hjs hcx hrs
  generalize hN : cs.length = n at *
  have HN := Lib.hid hN
  have HRL := Lib.hid hrl
  have HR0 := Lib.hid hr0
  clear hN hrl hr0
  go_enter Tryd.func86, Tryd.ntmps86
  go_wp2_with fail
  refine HC.out.mono ?_
  rintro e w2 ⟨rfl, hb2⟩
  have HB2 := Lib.hid (HB0.out.trans (hb2.mono (by simp)))
  have HBX2 := Lib.hid (HBX.out.below hb2 (by simp))
  have x1 := HBX2.out.cell 1
  simp only [List.getElem?_toArray, List.getElem?_cons_zero, List.getElem?_cons_succ] at x1
  have hxl := HBX2.out.lt
  clear hb2 HC
  go_wp2_with (at_make; refine wpList_make_full _ rfl _ _ 22 rfl w.heap.size 9 i0 (.string ⟨#[]⟩) 1 Tryd.underlying22 hi0 hz0 hz1 _ _ _ _ n rfl rfl rfl rfl ?b2 ?b3 ?b4 ?_)
  case b2 => rw [hz2]; omega
  case b3 => unfold maxLen; omega
  case b4 => exact HB2.out.size
  intro w5 hown5 hgrow5
  rw [HR0.out] at hown5
  have HO5 := Lib.hid hown5
  have hb5 : Below w2.heap.size w2 w5 := Below.grown (Below.refl _ _) hgrow5 (Nat.le_refl _) (fun q hq => by cases hq)
  have HB5 := Lib.hid hb5
  have HBX5 := Lib.hid (HBX2.out.below hb5 HBX2.out.lt)
  have x1 := HBX5.out.cell 1
  simp only [List.getElem?_toArray, List.getElem?_cons_zero, List.getElem?_cons_succ] at x1
  have hxl := HBX5.out.lt
  have hw2 := HB2.out.size
  have HW2 := Lib.hid hw2
  generalize hgz : w2.heap.size = g at *
  have HGZ := Lib.hid hgz
  clear hown5 hgrow5 hgz hb5
  go_wp2_with fail
  go_loopw [16] (fun i wr => ∃ k : Nat, k ≤ n ∧ i = .int .i64 k ∧ Hid (wr.ownsRow w.heap.size 9 1 (.slice (some ⟨g, 0, none⟩) n n) n ((rowT cs k).map strC).flatten) ∧ Hid (Below g w2 wr)) (fun i _ => n - (intOf i).toNat)
  case atStart => exact ⟨0, Nat.zero_le _, rfl, HO5, HB5⟩
  case round =>
    obtain ⟨k, hk, rfl, OW, BG⟩ := hrel
    have hbw : Below w.heap.size w wr := HB2.out.trans (BG.out.mono HW2.out)
    have BW := Lib.hid hbw
    by_cases hkn : k < n
    · obtain ⟨c, hc⟩ : ∃ c, cs[k]? = some c := ⟨cs[k]'(by rw [HN.out]; exact hkn), List.getElem?_eq_getElem (by rw [HN.out]; exact hkn)⟩
      obtain ⟨tb, to, tcap, htv, _, _, htbl, t0, t1⟩ := (ColsAt.keep HR.out BW.out).get hc
      simp only [HN.out, Value.slice.injEq, true_and] at htv
      obtain ⟨rfl, rfl⟩ := htv
      have hcx := HCX.out c (List.mem_of_getElem? hc)
      have hset := HRS.out k c hc
      have HSET := Lib.hid hset
      obtain ⟨⟨u, hu⟩, hfz, hgl⟩ := own_cell OW.out hkn (j := 0) (by decide)
      simp only [Nat.mul_one, Nat.add_zero] at hu hfz
      have hkl : (kindN c.k).length ≤ 4 := by
        unfold kindN
        split <;> simp
      have hcT : colT c = c.x ++ [32] ++ kindN c.k := rfl
      have HK := Lib.hid (fun W => kindName_any c.k W)
      rw [hcT] at HSET
      generalize kindN c.k = kn at *
      have hl1 : ¬ 9223372036854775807 < c.x.length + 1 := by omega
      have hl2 : ¬ 9223372036854775807 < c.x.length + 1 + kn.length := by omega
      have hcc : (ByteArray.mk c.x.toArray ++ ByteArray.mk #[32]) ++ ByteArray.mk kn.toArray = ⟨(c.x ++ [32] ++ kn).toArray⟩ := by
        apply ByteArray.ext
        simp
      have HCC := Lib.hid hcc
      have hdk : decide ((k : Int) < 0) = false := by simp
      have hdn : decide ((n : Int) ≤ (k : Int)) = false := by simp; omega
      have hgw : g ≠ wr.heap.size := by omega
      clear hc hset hcT hcc
      go_wp2_with fail
      go_region_law (go_simp; go_at_call 128; refine (HK.out _).mono ?_; rintro e w6 ⟨rfl, rfl⟩)
      all_goals
        go_wp2_with fail
        go_roundw
        case rel =>
          have h2 := own_setText (s := c.x ++ [32] ++ kn) OW.out (HRL.out k) hkn
          rw [HSET.out] at h2
          refine ⟨k + 1, by omega, by go_num, Lib.hid ?_, Lib.hid ?_⟩
          · rw [HCC.out]
            exact (MT.ofBelow (B := 0) (Ts := []) (bdrew (balloc (Below.refl _ _) _))).ownsRow h2.1 (by simp)
          · rw [HCC.out]
            exact bdrew (Below.allocZ HGZ.out (Mod.ownZ HGZ.out BG.out h2.2 (Nat.le_refl _)) _)
        case measure => simp [intOf]; omega
    · obtain rfl : k = n := by omega
      have hxb := Blk.belowZ HGZ.out HBX2.out BG.out
      have x0 := hxb.cell 0
      have x1 := hxb.cell 1
      simp only [List.getElem?_toArray, List.getElem?_cons_zero, List.getElem?_cons_succ] at x0 x1
      have hxl := hxb.lt
      have hgl := (OW.out.lt g rfl).2
      have ho := (MT.ofBelow (B := 0) (Ts := []) (bdrew (Below.refl wr.heap.size wr))).ownsRow OW.out (by simp)
      have hj := Tryd.strings_Join g 0 k ((rowT cs k).map fun s => (⟨s.toArray⟩ : ByteArray)) ⟨#[44, 32]⟩ wr.drew (text_cells ho (HRL.out k)) (by simpa using hgl) (by rw [List.length_map, HRL.out k]; omega) (by rw [List.length_map, HRL.out k]; exact Nat.le_refl _) (by rw [texts_back]; exact Nat.le_trans HJL.out (by decide))
      rw [texts_back, List.length_map, HRL.out k] at hj
      have hjl : (Lib.join (rowT cs k) [44, 32]).length ≤ 16384 := HJL.out
      have hj' : Calls Tryd.prog 67 #[.slice (some ⟨g, 0, none⟩) k k, .string ⟨#[44, 32]⟩] wr.drew fun e w' => e = .returned (.string ⟨(Lib.join (rowT cs k) [44, 32]).toArray⟩) ∧ Below wr.drew.heap.size wr.drew w' := hj
      obtain ⟨J, hJ⟩ : ∃ J, J = Lib.join (rowT cs k) [44, 32] := ⟨_, rfl⟩
      rw [← hJ] at hj' hjl
      have HJ := Lib.hid hj'
      have hl1 : ¬ 9223372036854775807 < nm.size + 1 := by omega
      have hl2 : ¬ 9223372036854775807 < nm.size + 1 + J.length := by omega
      have hl3 : ¬ 9223372036854775807 < nm.size + 1 + J.length + 1 := by omega
      have hcc : nm ++ ByteArray.mk #[40] ++ ByteArray.mk J.toArray ++ ByteArray.mk #[41] = ⟨(nm.data.toList ++ [40] ++ Lib.join (rowT cs k) [44, 32] ++ [41]).toArray⟩ := by
        rw [← hJ]
        apply ByteArray.ext
        simp
      have HCC := Lib.hid hcc
      have HBB := Lib.hid (bdrew BW.out)
      clear hxb ho hj hj' hcc hJ
      go_wp2_with fail
      go_region_law (go_simp; go_at_call 67; refine HJ.out.mono ?_; rintro e w6 ⟨rfl, hb6⟩; have y0 := (hb6.cell (p := ⟨w.heap.size, 0, none⟩) hxl).trans (show wr.drew.cell? ⟨w.heap.size, 0, none⟩ = _ from x0))
      all_goals
        have HB6 := Lib.hid (HBB.out.trans (hb6.mono HBB.out.size))
        clear hb6
        go_wp2_with fail
        go_ret
        exact ⟨(congrArg (fun x => Ending.returned (Value.string x)) HCC.out), HB6.out⟩
end Go.Proofs.YtgilflkgibfjgaaDoor
namespace Go.Proofs.YtgilflkgibfjgaaDoor
open Go.RowKit
set_option linter.unusedVariables false

theorem Tryd.infoCl : (Tryd.prog.info? 72).map (fun i => (i.zero, i.size, i.bytes)) = some (some (.agg #[.string ⟨#[]⟩, .int .i64 0]), 2, 24) := by kernel_rfl

set_option maxHeartbeats 1000000 in
theorem equal_col (d : Nat) (a b : Col) (w : World) : (Op.equalIn (d + 2) 72 (.agg a.cells.toArray) (.agg b.cells.toArray)).run Tryd.prog w = .ok (decide (a = b)) w := by
  have hf : (Tryd.prog.fieldsOf 72).toList.map f3 = [("Name", 9, 0), ("Kind", 43, 1)] := by kernel_rfl
  have p1 : ∀ w, (isAgg 43).run Tryd.prog w = .ok false w := fun _ => by kernel_rfl
  have p3 : ∀ w, (isAgg 9).run Tryd.prog w = .ok false w := fun _ => by kernel_rfl
  rw [run_equalIn_agg w (d + 1) _ _ _ (by kernel_rfl) (by kernel_rfl), eqF_of, hf]
  have e1 := fun (x y : Int) (w : World) => run_equalIn_int (P := Tryd.prog) w d 43 .i64 .i64 x y Tryd.underlying43
  have e3 := fun (x y : ByteArray) (w : World) => run_equalIn_string (P := Tryd.prog) w d 9 x y Tryd.underlying9
  obtain ⟨x, k⟩ := a
  obtain ⟨x', k'⟩ := b
  simp only [Col.cells, eqF, part, Sem.run_bind, Sem.run_ite, p1, p3, Result.andThen_ok]
  by_cases h1 : x = x' <;> by_cases h2 : k = k' <;> simp [h1, h2, e1, e3, Col.mk.injEq]
theorem neq_col (a b : Col) (w : World) : (binOp .neq 72 (.agg a.cells.toArray) (.agg b.cells.toArray)).run Tryd.prog w = .ok (.bool (!decide (a = b))) w := by
  rw [run_neq_struct, equal_col 9998]
  rfl
theorem eql_col (a b : Col) (w : World) : (binOp .eql 72 (.agg a.cells.toArray) (.agg b.cells.toArray)).run Tryd.prog w = .ok (.bool (decide (a = b))) w := by
  rw [run_eql_struct, equal_col 9998]
  rfl

set_option maxHeartbeats 2000000 in
set_option maxRecDepth 100000 in
theorem copyRel_any (w : World) (rel : ByteArray) (tv : Value) (ts : List Col) (h : RowAt w tv 2 (ts.map Col.cells)) (hn : ts.length ≤ 5864062014634) :
    Calls Tryd.prog 36 #[.agg #[.string rel, tv]] w fun e w' => ∃ v, e = .returned (.agg #[.string rel, v]) ∧ w'.ownsRow w.heap.size 72 2 v ts.length (ts.map Col.cells).flatten ∧ Below w.heap.size w w' := by
  obtain ⟨i0, hi0, hz0, hz1, hz2⟩ := info_parts Tryd.infoCl
  obtain ⟨ad, cap, rfl, hnc, hcm⟩ := h.form
  simp only [List.length_map] at hnc ⊢
  unfold maxLen at hcm
  have HL := Lib.hid (col_len ts)
  have HO := Lib.hid (col_one ts)
  have hlen : (ts.map Col.cells).length = ts.length := by simp
  generalize ts.map Col.cells = xs at *
  generalize hN : ts.length = n at *
  rw [hlen] at h
  have HR := Lib.hid h
  have HX := Lib.hid hlen
  have HBX := Lib.hid ((Blk.new w 64 #[.string rel, .slice ad n cap]).alloc (.cells #[.string ⟨#[]⟩, .slice none 0 0] 64))
  have HBY := Lib.hid (blkNew1 w (.cells #[.string rel, .slice ad n cap] 64) 64 #[.string ⟨#[]⟩, .slice none 0 0])
  have HB0 := Lib.hid (balloc (balloc (Below.refl w.heap.size w) (.cells #[.string rel, .slice ad n cap] 64)) (.cells #[.string ⟨#[]⟩, .slice none 0 0] 64))
  clear h hN hlen
  go_enter Tryd.func36, Tryd.ntmps36
  go_wp2_with (at_make; refine wpList_make_full _ rfl _ _ 62 rfl w.heap.size 72 i0 (.agg #[.string ⟨#[]⟩, .int .i64 0]) 2 Tryd.underlying62 hi0 hz0 hz1 _ _ _ _ n rfl rfl rfl rfl ?b2 ?b3 ?b4 ?_)
  case b2 => rw [hz2]; omega
  case b3 => unfold maxLen; omega
  case b4 => simp <;> omega
  intro w2 hown2 hgrow2
  have HOW2 := Lib.hid hown2
  have hbw2 : Below w.heap.size w w2 := HB0.out.grown hgrow2 (by simp <;> omega) (fun q hq => by cases hq)
  have HBW2 := Lib.hid hbw2
  have HR2 := Lib.hid (HR.out.keep hbw2)
  have bx := HBX.out.grown hgrow2 (by simp)
  have hby := HBY.out.grown hgrow2 (by simp)
  have x0 := bx.cell 0
  have x1 := bx.cell 1
  simp only [List.getElem?_toArray, List.getElem?_cons_zero, List.getElem?_cons_succ] at x0 x1
  have hxl := bx.lt
  have HBX2 := Lib.hid bx
  have HBY2 := Lib.hid hby
  clear hbw2 hown2 hgrow2 bx hby
  go_wp2_with (refine wpList_copy_full rfl _ _ _ _ rfl 72 2 Tryd.underlying62 (by kernel_rfl) (w.heap.size + 1 + 1) n _ rfl rfl _ w.heap.size HOW2.out xs HR2.out HX.out HL.out HO.out (by omega) ?_)
  intro w3 hown3 hmod3 hsz3
  have HOW3 := Lib.hid hown3
  have hbw3 := Mod.own HBW2.out hmod3 (by omega)
  have bx := HBX2.out.mod hmod3 (by omega)
  have hby := HBY2.out.mod hmod3 (by omega)
  have x0 := bx.cell 0
  simp only [List.getElem?_toArray, List.getElem?_cons_zero] at x0
  have hxl := bx.lt
  have HBW3 := Lib.hid hbw3
  have HBY3 := Lib.hid hby
  clear hown3 hmod3 hsz3 bx hby hbw3
  go_wp2_with (refine wpList_store_blk rfl 64 _ _ rfl (w.heap.size + 1) 64 _ _ rfl rfl HBY3.out (by kernel_rfl) rfl (by simp [Value.oneCell']) ?_)
  intro w4 hb4 hm4 hz4
  have r0 := hb4.cell 0
  have r1 := hb4.cell 1
  have HB4 := Lib.hid (Mod.own HBW3.out hm4 (by omega))
  have HO4 := Lib.hid (hm4.ownsRow HOW3.out (by intro q hq; simp [Value.ownBlock] at hq; omega))
  simp only [List.getElem?_toArray, List.getElem?_cons_zero, List.getElem?_cons_succ] at r0 r1
  clear hb4 hm4 hz4
  go_wp2_with fail
  exact bodyPost_ret (v := .agg #[.string rel, .slice (some ⟨w.heap.size + 1 + 1, 0, none⟩) n n]) (by simp [results, Tryd.results36, go_sem, *]) rfl ⟨_, rfl, HO4.out, HB4.out⟩

set_option maxHeartbeats 4000000 in
set_option maxRecDepth 100000 in
theorem sameRel_any (w : World) (rel : ByteArray) (va vb : Value) (ts : List Col) (ha : RowAt w va 2 (ts.map Col.cells)) (hb : RowAt w vb 2 (ts.map Col.cells)) :
    Calls Tryd.prog 43 #[.agg #[.string rel, va], .agg #[.string rel, vb]] w fun e w' => e = .returned (.bool true) ∧ Below w.heap.size w w' := by
  obtain ⟨aa, ac, rfl, hac, ham⟩ := ha.form
  obtain ⟨ba, bc, rfl, hbc, hbm⟩ := hb.form
  have hneq : ∀ (x : List UInt8) (k : Int) (w : World), (binOp .neq 72 (.agg #[.string ⟨x.toArray⟩, .int .i64 k]) (.agg #[.string ⟨x.toArray⟩, .int .i64 k])).run Tryd.prog w = .ok (.bool false) w := fun x k w => by
    have := neq_col ⟨x, k⟩ ⟨x, k⟩ w
    simpa [Col.cells] using this
  have hla := ha.len
  unfold maxLen at ham hbm
  have HA := Lib.hid ha
  have HB := Lib.hid hb
  simp only [List.length_map] at hac hbc hla ⊢
  generalize hN : ts.length = n at *
  have HN := Lib.hid hN
  clear ha hb hN
  go_enter Tryd.func43, Tryd.ntmps43
  go_wp2_with fail
  go_loopw [5] (fun i wr => ∃ k : Nat, k ≤ n ∧ i = .int .i64 k ∧ Hid (Blk wr w.heap.size 64 #[.string rel, .slice aa n ac]) ∧ Hid (Blk wr (w.heap.size + 1) 64 #[.string rel, .slice ba n bc]) ∧ Hid (Below w.heap.size w wr)) (fun i _ => n - (intOf i).toNat)
  case atStart => exact ⟨0, Nat.zero_le _, rfl, Lib.hid ((Blk.new _ _ _).alloc _), Lib.hid (blkNew1 _ _ _ _), Lib.hid (balloc (balloc (Below.refl _ _) _) _)⟩
  case round =>
    obtain ⟨k, hk, rfl, XA, XB, BW⟩ := hrel
    have a1 := XA.out.cell 1
    have b1 := XB.out.cell 1
    simp only [List.getElem?_toArray, List.getElem?_cons_zero, List.getElem?_cons_succ] at a1 b1
    have hal := XA.out.lt
    have hbl := XB.out.lt
    by_cases hlt : k < n
    · obtain ⟨t, ht⟩ : ∃ t, ts[k]? = some t := ⟨ts[k]'(by rw [HN.out]; exact hlt), List.getElem?_eq_getElem (by rw [HN.out]; exact hlt)⟩
      obtain ⟨g1, o1, c1, hv1, _, _, hgl1, k1⟩ := (HA.out.keep BW.out).get (i := k) (x := t.cells) (by simp [ht])
      obtain ⟨g2, o2, c2, hv2, _, _, hgl2, k2⟩ := (HB.out.keep BW.out).get (i := k) (x := t.cells) (by simp [ht])
      simp only [List.length_map, HN.out, Value.slice.injEq, true_and] at hv1 hv2
      obtain ⟨rfl, rfl⟩ := hv1
      obtain ⟨rfl, rfl⟩ := hv2
      have p0 := k1 0 _ rfl
      have p1 := k1 1 _ rfl
      have r0 := k2 0 _ rfl
      have r1 := k2 1 _ rfl
      simp only [Nat.add_zero] at p0 r0
      have hd : decide ((k : Int) < 0) = false := by simp
      have hd2 : decide ((n : Int) ≤ (k : Int)) = false := by simp; omega
      clear k1 k2 ht
      go_wp2_with fail
      go_quiet (fail)
      go_wp2_with fail
      go_roundw
      case rel => exact ⟨k + 1, by omega, by go_num, Lib.hid (XA.out.drewN _), Lib.hid (XB.out.drewN _), Lib.hid (bdrewN BW.out _)⟩
      case measure => simp [intOf]; omega
    · obtain rfl : k = n := by omega
      go_wp2_with fail
      go_ret
      exact ⟨rfl, BW.out⟩

end Go.Proofs.YtgilflkgibfjgaaDoor
namespace Go.Proofs.YtgilflkgibfjgaaDoor
open Go.RowKit
set_option linter.unusedVariables false

def bsA8 : ByteArray := ⟨#[82, 40, 97, 32, 105, 110, 116, 41]⟩
theorem a8_e : (lexR bsA8.data.toList).e = 0 := by kernel_rfl
theorem a8_q : schT (lexR bsA8.data.toList).ts = .ok ⟨[82], [⟨[97], 1⟩]⟩ [] := by kernel_rfl
theorem a8_c : chkC [82] [⟨[97], 1⟩] = 0 := by kernel_rfl
theorem a8_s : showC [82] [⟨[97], 1⟩] = [82, 40, 97, 32, 105, 110, 116, 41] := by kernel_rfl

/-- schema.Parse of a line that is cut into tokens. -/
theorem sch_line (s : ByteArray) (w : World) (hs : s.size ≤ 281474976710656) (hg : Glob w) (he : (lexR s.data.toList).e = 0) :
    Calls Tryd.prog 85 #[.string s] w (SPost w (schT (lexR s.data.toList).ts)) :=
  sch_good s w _ fun W hb => open_good s W hs (hg.below hb) he
theorem sch_fault (s : ByteArray) (w : World) (hs : s.size ≤ 281474976710656) (hg : Glob w) (he : (lexR s.data.toList).e ≠ 0) :
    Calls Tryd.prog 85 #[.string s] w (SPost w (.bad (lexR s.data.toList).at_ (lexR s.data.toList).e)) :=
  sch_bad s w _ _ fun W hb => open_bad s W hs (hg.below hb) he

theorem own1c {w : World} {B : Nat} {e : TypeId} {sz : Nat} {v : Value} {xs : List Value} (h : w.ownsRow B e sz v 1 xs) : ∃ (g cap : Nat), v = .slice (some ⟨g, 0, none⟩) 1 cap ∧ 1 ≤ cap ∧ cap ≤ maxLen ∧ g < w.heap.size ∧ ∀ (i : Nat) (u : Value), i < sz → xs[i]? = some u → w.cell? ⟨g, i, none⟩ = some u := by
  rcases h.2 with ⟨_, h0⟩ | ⟨g, cap, cur, rfl, _, hg, hnc, hcm, _⟩
  · omega
  · exact ⟨g, cap, rfl, hnc, hcm, (Array.getElem?_eq_some_iff.1 hg).1, fun i u hi hu => (h.cellAt i (by omega)).trans hu⟩

set_option maxHeartbeats 4000000 in
set_option maxRecDepth 100000 in
theorem awake08 (w : World) (hg : Glob w) : Calls Tryd.prog 38 #[] w fun e w' => e = .returned (.bool true) ∧ Below w.heap.size w w' := by
  have heq : ∀ w, (binOp .eql 72 (.agg #[.string ⟨#[97]⟩, .int .i64 1]) (.agg #[.string ⟨#[97]⟩, .int .i64 1])).run Tryd.prog w = .ok (.bool true) w := fun w => eql_col ⟨[97], 1⟩ ⟨[97], 1⟩ w
  have hp := sch_line bsA8 w (by decide) hg a8_e
  rw [a8_q] at hp
  have HP := Lib.hid hp
  clear hp hg
  unfold bsA8 at HP
  go_enter Tryd.func38, Tryd.ntmps38
  go_wp2_with fail
  refine HP.out.mono ?_
  rintro e w1 ⟨cv, rfl, hown, hb⟩
  obtain ⟨g, c, rfl, _, hcm, hgl, hce⟩ := own1c (show w1.ownsRow w.heap.size 72 2 cv 1 _ from hown)
  have c0 := hce 0 _ (by decide) rfl
  have c1 := hce 1 _ (by decide) rfl
  unfold maxLen at hcm
  have hat := ColsOwn.at hown (by decide)
  have hs := show_good8 (w1.alloc (.cells #[.string ⟨#[82]⟩, .slice (some ⟨g, 0, none⟩) 1 c] 64)) ⟨#[82]⟩ (.slice (some ⟨g, 0, none⟩) 1 c) [⟨[97], 1⟩] (hat.keep (balloc (Below.refl _ _) _)) a8_c
  rw [show showC (⟨#[82]⟩ : ByteArray).data.toList [⟨[97], 1⟩] = _ from a8_s] at hs
  have HS := Lib.hid hs
  have HB := Lib.hid (balloc hb (.cells #[.string ⟨#[82]⟩, .slice (some ⟨g, 0, none⟩) 1 c] 64))
  clear hown hce hat hs hb
  go_wp2_with fail
  refine HS.out.mono ?_
  rintro e w2 ⟨rfl, hb2⟩
  have HB2 := Lib.hid (HB.out.trans (hb2.mono HB.out.size))
  clear hb2
  go_wp2_with fail
  go_ret
  exact ⟨rfl, HB2.out⟩
end Go.Proofs.YtgilflkgibfjgaaDoor
