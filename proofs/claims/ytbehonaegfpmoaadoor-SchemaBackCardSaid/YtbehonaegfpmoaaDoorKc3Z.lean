/- schema.Show, walked. -/
import Derived.Test.YtbehonaegfpmoaaDoorKc2Z
import Derived.Test.YtbehonaegfpmoaaDoorSq1Z
import Derived.Test.YtbehonaegfpmoaaDoorGr
import Derived.Test.YtbehonaegfpmoaaDoorShelfJ
import Derived.Deep.RegionLaw
namespace Go.Proofs.YtbehonaegfpmoaaDoor
open Go.RowKit
set_option linter.unusedVariables false

theorem Tryd.infoTx : (Tryd.prog.info? 9).map (fun i => (i.zero, i.size, i.bytes)) = some (some (.string ⟨#[]⟩), 1, 16) := by kernel_rfl

/-- The words while they are written. -/
def rowT (cs : List Col) (k : Nat) : List (List UInt8) := (cs.take k).map colT ++ (cs.drop k).map fun _ => []
theorem rowT_len (cs : List Col) (k : Nat) : (rowT cs k).length = cs.length := by
  unfold rowT
  simp
  omega
theorem rowT_set {cs : List Col} {k : Nat} {c : Col} (h : cs[k]? = some c) : (rowT cs k).set k (colT c) = rowT cs (k + 1) := by
  have hk := (List.getElem?_eq_some_iff.1 h).1
  have hl : ((cs.take k).map colT).length = k := by rw [List.length_map, List.length_take]; omega
  have e1 : (cs.take (k + 1)).map colT = (cs.take k).map colT ++ [colT c] := by
    rw [List.take_add_one, h]
    simp
  have e2 : cs.drop k = cs[k] :: cs.drop (k + 1) := List.drop_eq_getElem_cons hk
  unfold rowT
  rw [e1, e2, List.map_cons, List.set_append_right _ _ (by omega), hl, Nat.sub_self, List.set_cons_zero, List.append_assoc]
  rfl
theorem empties : ∀ l : List Col, List.replicate l.length [Value.string ⟨#[]⟩] = (l.map fun _ => ([] : List UInt8)).map strC
  | [] => rfl
  | _ :: l => by
    simp only [List.length_cons, List.replicate_succ, List.map_cons]
    rw [empties l]
    rfl
theorem rowT_zero (cs : List Col) : (madeCells #[.string ⟨#[]⟩] cs.length).toList = ((rowT cs 0).map strC).flatten := by
  have h := made_rows [.string ⟨#[]⟩] cs.length (by simp)
  rw [empties cs, show cs.length * ([Value.string ⟨#[]⟩] : List Value).length = cs.length from Nat.mul_one _] at h
  unfold rowT
  simp only [List.take_zero, List.map_nil, List.drop_zero, List.nil_append]
  exact h
theorem rowT_all (cs : List Col) : rowT cs cs.length = cs.map colT := by
  unfold rowT
  simp
theorem strC1 (l : List (List UInt8)) : ∀ x ∈ l.map strC, x.length = 1 := by
  intro x hx
  simp at hx
  obtain ⟨t, _, rfl⟩ := hx
  rfl
/-- A text stored into a row of the call's own. -/
theorem own_setText {w : World} {g k n cap base : Nat} {l : List (List UInt8)} {s : List UInt8} (hown : w.ownsRow base 9 1 (.slice (some ⟨g, 0, none⟩) n cap) n (l.map strC).flatten) (hn : l.length = n) (hk : k < n) :
    (w.setCell ⟨g, k, none⟩ (.string ⟨s.toArray⟩)).ownsRow base 9 1 (.slice (some ⟨g, 0, none⟩) n cap) n ((l.set k s).map strC).flatten ∧ Mod (fun j => j = g) w (w.setCell ⟨g, k, none⟩ (.string ⟨s.toArray⟩)) := by
  have h := own_setCells (cells := [.string ⟨s.toArray⟩]) hown (strC1 l) (by rw [List.length_map, hn]) hk (by intro v hv; simp at hv; subst hv; rfl)
  have e : w.setCells g (k * ([Value.string ⟨s.toArray⟩] : List Value).length) [.string ⟨s.toArray⟩] = w.setCell ⟨g, k, none⟩ (.string ⟨s.toArray⟩) := by
    simp [World.setCells]
  rw [e] at h
  rw [List.map_set]
  exact ⟨h.1, h.2.1⟩

theorem Mod.ownZ {b g : Nat} {w0 w w' : World} (hz : w0.heap.size = g) (h : Below g w0 w) (hm : Mod (fun k => k = b) w w') (hb : g ≤ b) : Below g w0 w' := by
  subst hz
  exact Mod.own h hm hb
theorem Blk.belowZ {g b : Nat} {w0 w : World} {t : TypeId} {cs : Array Value} (hz : w0.heap.size = g) (h : Blk w0 b t cs) (hb : Below g w0 w) : Blk w b t cs := by
  subst hz
  exact h.below hb h.lt
theorem Below.allocZ {g : Nat} {w0 w : World} (hz : w0.heap.size = g) (h : Below g w0 w) (o : Obj) : Below g w0 (w.alloc o) := by
  subst hz
  exact balloc h o
theorem text_cells {w : World} {g n cap base : Nat} {l : List (List UInt8)} (hown : w.ownsRow base 9 1 (.slice (some ⟨g, 0, none⟩) n cap) n (l.map strC).flatten) (hn : l.length = n) (j : Nat) (x : ByteArray) (hx : (l.map fun s => (⟨s.toArray⟩ : ByteArray))[j]? = some x) : w.cell? ⟨g, 0 + j, none⟩ = some (.string x) := by
  rw [List.getElem?_map] at hx
  cases hs : l[j]? with
  | none => rw [hs] at hx; simp at hx
  | some s =>
    rw [hs] at hx
    simp at hx
    subst hx
    have hj := (List.getElem?_eq_some_iff.1 hs).1
    have h1 := hown.cellAt j (by omega)
    have h2 := flatten_at (strC1 l) (i := j) (j := 0) (x := strC s) (u := .string ⟨s.toArray⟩) (by simp [hs]) rfl
    simp only [Nat.mul_one, Nat.add_zero] at h2
    rw [Nat.zero_add]
    exact h1.trans h2
theorem texts_back (l : List (List UInt8)) : (l.map fun s => (⟨s.toArray⟩ : ByteArray)).map (·.data.toList) = l := by
  rw [List.map_map]
  conv => rhs; rw [← List.map_id l]
  apply List.map_congr_left
  intro a _
  simp

set_option maxHeartbeats 2000000 in
set_option maxRecDepth 100000 in
theorem show_bad (w : World) (nm : ByteArray) (v : Value) (cs : List Col) (h : ColsAt w v cs) (hn : nm.size ≤ 140737488355328) (hc : ∀ c ∈ cs, c.x.length ≤ 140737488355328) (hk : chkC nm.data.toList cs ≠ 0) :
    Calls Tryd.prog 39 #[.agg #[.string nm, v]] w fun e w' => e = .returned (.string ⟨#[]⟩) ∧ Below w.heap.size w w' := by
  have hb0 : Below w.heap.size w (w.alloc (.cells #[.string nm, v] 58)) := balloc (Below.refl _ _) _
  have hch := check_any _ nm v cs (h.keep hb0) hn hc
  have q0 : (chkC nm.data.toList cs != 0) = true := by simpa using hk
  have HC := Lib.hid hch
  have HB0 := Lib.hid hb0
  clear hch hb0 h hn hc hk
  generalize chkC nm.data.toList cs = ch at *
  go_enter Tryd.func39, Tryd.ntmps39
  go_wp2_with fail
  refine HC.out.mono ?_
  rintro e w2 ⟨rfl, hb2⟩
  have HB2 := Lib.hid (HB0.out.trans (hb2.mono (by simp)))
  clear hb2
  go_wp2_with fail
  go_ret
  exact ⟨rfl, HB2.out⟩

set_option maxHeartbeats 8000000 in
set_option maxRecDepth 100000 in
theorem show_good (w : World) (nm : ByteArray) (v : Value) (cs : List Col) (h : ColsAt w v cs) (hk : chkC nm.data.toList cs = 0) :
    Calls Tryd.prog 39 #[.agg #[.string nm, v]] w fun e w' => e = .returned (.string ⟨(showC nm.data.toList cs).toArray⟩) ∧ Below w.heap.size w w' := by
  obtain ⟨i0, hi0, hz0, hz1, hz2⟩ := info_parts Tryd.infoTx
  obtain ⟨k1, k2, k3, k4⟩ := chkC_ok hk
  have hnl := nm_len k1
  have hsh := (show_len hk).2
  have hb0 : Below w.heap.size w (w.alloc (.cells #[.string nm, v] 58)) := balloc (Below.refl _ _) _
  have hbx := Blk.new w 58 #[.string nm, v]
  have hch := check_any _ nm v cs (h.keep hb0) (by have : nm.size = nm.data.toList.length := rfl; omega) (fun c hc => by have := nm_len (k2 c hc).1; omega)
  rw [hk] at hch
  obtain ⟨ad, cap, rfl, hnc, hcm⟩ := h.form
  have hnz : nm.size ≤ 16 := hnl.2
  have hcx : ∀ c ∈ cs, c.x.length ≤ 16 := fun c hc => (nm_len (k2 c hc).1).2
  have hjn : (Lib.join (rowT cs cs.length) [44, 32]).length ≤ 16384 ∧ showC nm.data.toList cs = nm.data.toList ++ [40] ++ Lib.join (rowT cs cs.length) [44, 32] ++ [41] := by
    have e : showC nm.data.toList cs = nm.data.toList ++ [40] ++ Lib.join (cs.map colT) [44, 32] ++ [41] := by
      unfold showC
      rw [if_pos hk]
    rw [rowT_all]
    rw [e] at hsh
    simp only [List.length_append] at hsh
    exact ⟨by omega, e⟩
  obtain ⟨hjl, hjs⟩ := hjn
  rw [hjs]
  have HR := Lib.hid h
  have HJL := Lib.hid hjl
  have HC := Lib.hid hch
  have HB0 := Lib.hid hb0
  have HBX := Lib.hid hbx
  have HCX := Lib.hid hcx
  have hrl := rowT_len cs
  have hr0 := rowT_zero cs
  have hrs := fun k c => rowT_set (cs := cs) (k := k) (c := c)
  have HRS := Lib.hid hrs
  clear h hch hb0 hbx k1 k2 k4 hk hsh hnl hjl hjs hcx hrs
  generalize hN : cs.length = n at *
  have HN := Lib.hid hN
  have HRL := Lib.hid hrl
  have HR0 := Lib.hid hr0
  clear hN hrl hr0
  go_enter Tryd.func39, Tryd.ntmps39
  go_wp2_with fail
  refine HC.out.mono ?_
  rintro e w2 ⟨rfl, hb2⟩
  have HB2 := Lib.hid (HB0.out.trans (hb2.mono (by simp)))
  have HBX2 := Lib.hid (HBX.out.below hb2 (by simp))
  have x1 := HBX2.out.cell 1
  simp only [List.getElem?_toArray, List.getElem?_cons_zero, List.getElem?_cons_succ] at x1
  have hxl := HBX2.out.lt
  clear hb2 HC
  go_wp2_with (at_make; refine wpList_make_full _ rfl _ _ 22 rfl w.heap.size 9 i0 (.string ⟨#[]⟩) 1 Tryd.underlying22 hi0 hz0 hz1 _ _ _ _ n rfl rfl rfl rfl ?b2 ?b3 ?b4 ?_)
  case b2 => rw [hz2]; omega
  case b3 => unfold maxLen; omega
  case b4 => exact HB2.out.size
  intro w5 hown5 hgrow5
  rw [HR0.out] at hown5
  have HO5 := Lib.hid hown5
  have hb5 : Below w2.heap.size w2 w5 := Below.grown (Below.refl _ _) hgrow5 (Nat.le_refl _) (fun q hq => by cases hq)
  have HB5 := Lib.hid hb5
  have HBX5 := Lib.hid (HBX2.out.below hb5 HBX2.out.lt)
  have x1 := HBX5.out.cell 1
  simp only [List.getElem?_toArray, List.getElem?_cons_zero, List.getElem?_cons_succ] at x1
  have hxl := HBX5.out.lt
  have hw2 := HB2.out.size
  have HW2 := Lib.hid hw2
  generalize hgz : w2.heap.size = g at *
  have HGZ := Lib.hid hgz
  clear hown5 hgrow5 hgz hb5
  go_wp2_with fail
  go_loopw [16] (fun i wr => ∃ k : Nat, k ≤ n ∧ i = .int .i64 k ∧ Hid (wr.ownsRow w.heap.size 9 1 (.slice (some ⟨g, 0, none⟩) n n) n ((rowT cs k).map strC).flatten) ∧ Hid (Below g w2 wr)) (fun i _ => n - (intOf i).toNat)
  case atStart => exact ⟨0, Nat.zero_le _, rfl, HO5, HB5⟩
  case round =>
    obtain ⟨k, hk, rfl, OW, BG⟩ := hrel
    have hbw : Below w.heap.size w wr := HB2.out.trans (BG.out.mono HW2.out)
    have BW := Lib.hid hbw
    by_cases hkn : k < n
    · obtain ⟨c, hc⟩ : ∃ c, cs[k]? = some c := ⟨cs[k]'(by rw [HN.out]; exact hkn), List.getElem?_eq_getElem (by rw [HN.out]; exact hkn)⟩
      obtain ⟨tb, to, tcap, htv, _, _, htbl, t0, t1⟩ := (ColsAt.keep HR.out BW.out).get hc
      simp only [HN.out, Value.slice.injEq, true_and] at htv
      obtain ⟨rfl, rfl⟩ := htv
      have hcx := HCX.out c (List.mem_of_getElem? hc)
      have hset := HRS.out k c hc
      have HSET := Lib.hid hset
      obtain ⟨⟨u, hu⟩, hfz, hgl⟩ := own_cell OW.out hkn (j := 0) (by decide)
      simp only [Nat.mul_one, Nat.add_zero] at hu hfz
      have hkl : (kindN c.k).length ≤ 4 := by
        unfold kindN
        split <;> simp
      have hcT : colT c = c.x ++ [32] ++ kindN c.k := rfl
      have HK := Lib.hid (fun W => kindName_any c.k W)
      rw [hcT] at HSET
      generalize kindN c.k = kn at *
      have hl1 : ¬ 9223372036854775807 < c.x.length + 1 := by omega
      have hl2 : ¬ 9223372036854775807 < c.x.length + 1 + kn.length := by omega
      have hcc : (ByteArray.mk c.x.toArray ++ ByteArray.mk #[32]) ++ ByteArray.mk kn.toArray = ⟨(c.x ++ [32] ++ kn).toArray⟩ := by
        apply ByteArray.ext
        simp
      have HCC := Lib.hid hcc
      have hdk : decide ((k : Int) < 0) = false := by simp
      have hdn : decide ((n : Int) ≤ (k : Int)) = false := by simp; omega
      have hgw : g ≠ wr.heap.size := by omega
      clear hc hset hcT hcc
      go_wp2_with fail
      go_region_law (go_simp; go_at_call 90; refine (HK.out _).mono ?_; rintro e w6 ⟨rfl, rfl⟩)
      all_goals
        go_wp2_with fail
        go_roundw
        case rel =>
          have h2 := own_setText (s := c.x ++ [32] ++ kn) OW.out (HRL.out k) hkn
          rw [HSET.out] at h2
          refine ⟨k + 1, by omega, by go_num, Lib.hid ?_, Lib.hid ?_⟩
          · rw [HCC.out]
            exact (MT.ofBelow (B := 0) (Ts := []) (bdrew (balloc (Below.refl _ _) _))).ownsRow h2.1 (by simp)
          · rw [HCC.out]
            exact bdrew (Below.allocZ HGZ.out (Mod.ownZ HGZ.out BG.out h2.2 (Nat.le_refl _)) _)
        case measure => simp [intOf]; omega
    · obtain rfl : k = n := by omega
      have hxb := Blk.belowZ HGZ.out HBX2.out BG.out
      have x0 := hxb.cell 0
      have x1 := hxb.cell 1
      simp only [List.getElem?_toArray, List.getElem?_cons_zero, List.getElem?_cons_succ] at x0 x1
      have hxl := hxb.lt
      have hgl := (OW.out.lt g rfl).2
      have ho := (MT.ofBelow (B := 0) (Ts := []) (bdrew (Below.refl wr.heap.size wr))).ownsRow OW.out (by simp)
      have hj := Tryd.strings_Join g 0 k ((rowT cs k).map fun s => (⟨s.toArray⟩ : ByteArray)) ⟨#[44, 32]⟩ wr.drew (text_cells ho (HRL.out k)) (by simpa using hgl) (by rw [List.length_map, HRL.out k]; omega) (by rw [List.length_map, HRL.out k]; exact Nat.le_refl _) (by rw [texts_back]; exact Nat.le_trans HJL.out (by decide))
      rw [texts_back, List.length_map, HRL.out k] at hj
      have hjl : (Lib.join (rowT cs k) [44, 32]).length ≤ 16384 := HJL.out
      have hj' : Calls Tryd.prog 91 #[.slice (some ⟨g, 0, none⟩) k k, .string ⟨#[44, 32]⟩] wr.drew fun e w' => e = .returned (.string ⟨(Lib.join (rowT cs k) [44, 32]).toArray⟩) ∧ Below wr.drew.heap.size wr.drew w' := hj
      obtain ⟨J, hJ⟩ : ∃ J, J = Lib.join (rowT cs k) [44, 32] := ⟨_, rfl⟩
      rw [← hJ] at hj' hjl
      have HJ := Lib.hid hj'
      have hl1 : ¬ 9223372036854775807 < nm.size + 1 := by omega
      have hl2 : ¬ 9223372036854775807 < nm.size + 1 + J.length := by omega
      have hl3 : ¬ 9223372036854775807 < nm.size + 1 + J.length + 1 := by omega
      have hcc : nm ++ ByteArray.mk #[40] ++ ByteArray.mk J.toArray ++ ByteArray.mk #[41] = ⟨(nm.data.toList ++ [40] ++ Lib.join (rowT cs k) [44, 32] ++ [41]).toArray⟩ := by
        rw [← hJ]
        apply ByteArray.ext
        simp
      have HCC := Lib.hid hcc
      have HBB := Lib.hid (bdrew BW.out)
      clear hxb ho hj hj' hcc hJ
      go_wp2_with fail
      go_region_law (go_simp; go_at_call 91; refine HJ.out.mono ?_; rintro e w6 ⟨rfl, hb6⟩; have y0 := (hb6.cell (p := ⟨w.heap.size, 0, none⟩) hxl).trans (show wr.drew.cell? ⟨w.heap.size, 0, none⟩ = _ from x0))
      all_goals
        have HB6 := Lib.hid (HBB.out.trans (hb6.mono HBB.out.size))
        clear hb6
        go_wp2_with fail
        go_ret
        exact ⟨(congrArg (fun x => Ending.returned (Value.string x)) HCC.out), HB6.out⟩
end Go.Proofs.YtbehonaegfpmoaaDoor
