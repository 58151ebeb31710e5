/- ChangeMemory, walked. -/
import Derived.Test.YtgjknekoehfdfaaGreatDoorPn10Z
import Derived.Test.YtgjknekoehfdfaaGreatDoorIv
import Derived.Test.YtgjknekoehfdfaaGreatDoorMspZ
namespace Go.Proofs.YtgjknekoehfdfaaGreatDoor
open Go.RowKit
set_option linter.unusedVariables false

/-- A list of changes of a call's own, all its blocks from lo on and below hi. -/
def ChgsR (lo hi : Nat) (w : World) (v : Value) (l : List Chg) : Prop :=
  ∃ rows : List (List Value), (w.ownsRow lo 30 3 v l.length rows.flatten ∧ ∀ g, v.ownBlock = some g → g < hi) ∧
    All2 (fun row (c : Chg) => ∃ rv, row = [.bool c.add, .string ⟨c.rel.toArray⟩, rv] ∧ w.ownsRow lo 74 3 rv c.row.length (c.row.map Vl.cells).flatten ∧ ∀ g, rv.ownBlock = some g → g < hi) rows l
theorem own_lt {w : World} {B sz n : Nat} {e : TypeId} {v : Value} {xs : List Value} (h : w.ownsRow B e sz v n xs) {g : Nat} (hg : v.ownBlock = some g) : B ≤ g ∧ g < w.heap.size := by
  rcases h.2 with ⟨rfl, _⟩ | ⟨g', cap, cur, rfl, hb, h3, _⟩
  · cases hg
  · simp only [Value.ownBlock, Option.some.injEq] at hg
    subst hg
    exact ⟨hb, (Array.getElem?_eq_some_iff.1 h3).1⟩
theorem ChgsR.ofOwn {B : Nat} {w : World} {v : Value} {l : List Chg} (h : ChgsOwn B w v l) : ChgsR B w.heap.size w v l := by
  obtain ⟨rows, h1, h2⟩ := h
  refine ⟨rows, ⟨h1, fun g hg => (own_lt h1 hg).2⟩, h2.mono fun b c hh => ?_⟩
  obtain ⟨rv, e, h3⟩ := hh
  exact ⟨rv, e, h3, fun g hg => (own_lt h3 hg).2⟩
theorem ChgsR.own {lo hi : Nat} {w : World} {v : Value} {l : List Chg} (h : ChgsR lo hi w v l) : ChgsOwn lo w v l := by
  obtain ⟨rows, h1, h2⟩ := h
  refine ⟨rows, h1.1, h2.mono fun b c hh => ?_⟩
  obtain ⟨rv, e, h3, _⟩ := hh
  exact ⟨rv, e, h3⟩
theorem ChgsR.mod {lo hi : Nat} {w w' : World} {v : Value} {l : List Chg} {F : Nat → Prop} (h : ChgsR lo hi w v l) (hm : Mod F w w') (hF : ∀ g, lo ≤ g → g < hi → ¬ F g) : ChgsR lo hi w' v l := by
  obtain ⟨rows, h1, h2⟩ := h
  refine ⟨rows, ⟨hm.ownsRow h1.1 fun g hg => hF g (own_lt h1.1 hg).1 (h1.2 g hg), h1.2⟩, h2.mono fun b c hh => ?_⟩
  obtain ⟨rv, e, h3, h4⟩ := hh
  exact ⟨rv, e, hm.ownsRow h3 fun g hg => hF g (own_lt h3 hg).1 (h4 g hg), h4⟩

/-- What must stay while what was told is written over. -/
structure MemS (w w3 w4 w5 : World) (i2 n2 : Value) (l : List Chg) (W : World) : Prop where
  low : Below w.heap.size w W
  i2 : ChgsR w3.heap.size w4.heap.size W i2 (invB l)
  n2 : ChgsR w4.heap.size w5.heap.size W n2 (netC l)
theorem MemS.keep {w w3 w4 w5 W W' : World} {i2 n2 : Value} {l : List Chg} (h : MemS w w3 w4 w5 i2 n2 l W) (hb : Below W.heap.size W W') : MemS w w3 w4 w5 i2 n2 l W' :=
  ⟨h.low.trans (hb.mono h.low.size), h.i2.mod (Mod.ofBelow (F := fun _ => False) hb) (fun _ _ _ f => f), h.n2.mod (Mod.ofBelow (F := fun _ => False) hb) (fun _ _ _ f => f)⟩
theorem MemS.mod {w w3 w4 w5 W W' : World} {i2 n2 : Value} {l : List Chg} {F : Nat → Prop} (h : MemS w w3 w4 w5 i2 n2 l W) (h34 : w3.heap.size ≤ w4.heap.size) (hm : Mod F W W') (hF : ∀ g, F g → w.heap.size ≤ g ∧ g < w3.heap.size) : MemS w w3 w4 w5 i2 n2 l W' :=
  ⟨h.low.trans (hm.below h.low.size (fun g hg => (hF g hg).1)), h.i2.mod hm (fun g h1 _ f => by have := (hF g f).2; omega), h.n2.mod hm (fun g h1 _ f => by have := (hF g f).2; omega)⟩

set_option maxHeartbeats 8000000 in
set_option maxRecDepth 100000 in
theorem cmem_card (v : Value) (w : World) {l : List Chg} (h : ChgsAt w v l) (hr : RangeB l) (hz : ∀ c ∈ l, c.rel.length ≤ 140737488351232 ∧ ∀ u ∈ c.row, u.t.length ≤ 140737488351232) (hn : l.length ≤ 2932031007402) (hg : Glob w) :
    Calls Tryz.prog 5 #[v] w fun e w' => e = .returned (.bool true) ∧ Below w.heap.size w w' := by
  have hcp := copyB_any w v l h hn
  have hrl := h.rows
  have hnl := net_rows hrl
  have hvl : ∀ c ∈ invB l, c.row.length ≤ 4398046511104 := by
    intro c hc
    unfold invB at hc
    rw [List.mem_reverse] at hc
    obtain ⟨d, hd, rfl⟩ := List.mem_map.1 hc
    exact hrl d hd
  have hnn := netC_len l
  have hin := inv_len l
  have HNET := Lib.hid (fun W u (hu : ChgsAt W u l) => cnet_any W u l hu hn (fun c hc => by have := (hz c hc).1; omega))
  have HREF := Lib.hid (fun W u (hu : ChgsAt W u l) => refNet_any W u l hu hn (fun c hc => ⟨by have := (hz c hc).1; omega, fun u hu => by have := (hz c hc).2 u hu; omega⟩))
  have HINV := Lib.hid (fun W u (hu : ChgsAt W u l) => invert_any W u l hu hn)
  have HRI := Lib.hid (fun W u (hu : ChgsAt W u l) => refInv_any W u l hu hn)
  obtain ⟨ba, bc, rfl, _, _⟩ := h.form
  have HB := Lib.hid h
  have HCP := Lib.hid hcp
  have HG := Lib.hid hg
  have HRL := Lib.hid hrl
  have HNL := Lib.hid hnl
  have HVL := Lib.hid hvl
  have HSM := Lib.hid (fun W a b (m : List Chg) (ha : ChgsAt W a m) (hb : ChgsAt W b m) => sameChgs_any W a b m ha hb)
  clear h hcp hg hr hz hrl hnl hvl
  generalize hN : l.length = n at *
  generalize hNN : (netC l).length = nn at *
  have HN := Lib.hid hN
  have HNN := Lib.hid hNN
  have HIN := Lib.hid hin
  clear hN hNN hin
  go_enter Tryz.func5, Tryz.ntmps5
  go_wp2_with fail
  refine HCP.out.mono ?_
  rintro e w1 ⟨cv, rfl, hown1, hb1⟩
  have hat1 := hown1.at (by rw [HN.out]; omega) HRL.out
  obtain ⟨ca, cc, rfl, _, _⟩ := hat1.form
  rw [HN.out] at hat1 hown1 ⊢
  obtain ⟨T0, hT0⟩ := CgW.ofOwn (F := fun g => w.heap.size ≤ g ∧ g < w1.heap.size) hown1 HN.out hn HRL.out (fun g h1 h2 => ⟨h1, h2⟩)
  have HAT1 := Lib.hid hat1
  have HT0 := Lib.hid hT0
  have HR0 := Lib.hid (ChgsR.ofOwn hown1)
  have HB1 := Lib.hid hb1
  have hs1 := hb1.size
  have HI1 := Lib.hid (HINV.out w1 _ hat1)
  clear hat1 hT0 hown1 hb1 HCP
  go_wp2_with fail
  refine HI1.out.mono ?_
  rintro e w2 ⟨iv1, rfl, hown2, hb2⟩
  obtain ⟨ia, ic, rfl, _, _⟩ := (hown2.at (by rw [HIN.out]; omega) HVL.out).form
  rw [HIN.out] at hown2 ⊢
  obtain ⟨T1, hT1⟩ := CgW.ofOwn (F := fun g => w1.heap.size ≤ g ∧ g < w2.heap.size) hown2 HIN.out hn HVL.out (fun g h1 h2 => ⟨h1, h2⟩)
  have HT1 := Lib.hid hT1
  have HB2 := Lib.hid hb2
  have hs2 := hb2.size
  have HN1 := Lib.hid (HNET.out w2 _ (HAT1.out.keep hb2))
  clear hown2 hT1 hb2 HI1
  go_wp2_with fail
  refine HN1.out.mono ?_
  rintro e w3 ⟨nv1, rfl, hown3, hb3⟩
  obtain ⟨na, nc, rfl, _, _⟩ := (hown3.at (by rw [HNN.out]; omega) HNL.out).form
  rw [HNN.out] at hown3 ⊢
  obtain ⟨T2, hT2⟩ := CgW.ofOwn (F := fun g => w2.heap.size ≤ g ∧ g < w3.heap.size) hown3 HNN.out (by omega) HNL.out (fun g h1 h2 => ⟨h1, h2⟩)
  have HT2 := Lib.hid hT2
  have HB3 := Lib.hid hb3
  have hs3 := hb3.size
  have HI2 := Lib.hid (HINV.out w3 _ ((HAT1.out.keep HB2.out).keep hb3))
  clear hown3 hT2 hb3 HN1
  go_wp2_with fail
  refine HI2.out.mono ?_
  rintro e w4 ⟨iv2, rfl, hown4, hb4⟩
  obtain ⟨ja, jc, rfl, _, _⟩ := (hown4.at (by rw [HIN.out]; omega) HVL.out).form
  rw [HIN.out] at hown4 ⊢
  have HR4 := Lib.hid (ChgsR.ofOwn hown4)
  have HB4 := Lib.hid hb4
  have hs4 := hb4.size
  have HN2 := Lib.hid (HNET.out w4 _ (((HAT1.out.keep HB2.out).keep HB3.out).keep hb4))
  clear hown4 hb4 HI2
  go_wp2_with fail
  refine HN2.out.mono ?_
  rintro e w5 ⟨nv2, rfl, hown5, hb5⟩
  obtain ⟨ma, mc, rfl, _, _⟩ := (hown5.at (by rw [HNN.out]; omega) HNL.out).form
  rw [HNN.out] at hown5 ⊢
  have h15 := bt2 (bt2 (bt2 HB2.out HB3.out) HB4.out) hb5
  have h25 := bt2 (bt2 HB3.out HB4.out) hb5
  have h35 := bt2 HB4.out hb5
  have hs5 := hb5.size
  have HM5 : Hid (MemS w w3 w4 w5 (.slice ja n jc) (.slice ma nn mc) l w5) := Lib.hid ⟨bt2 HB1.out h15, HR4.out.mod (Mod.ofBelow (F := fun _ => False) hb5) (fun _ _ _ f => f), ChgsR.ofOwn hown5⟩
  have HT05 := Lib.hid (HT0.out.mod (Mod.ofBelow (F := fun _ => False) h15) (fun _ _ f => f))
  have HR05 := Lib.hid (HR0.out.mod (Mod.ofBelow (F := fun _ => False) h15) (fun _ _ _ f => f))
  have HSP1 := Lib.hid (spoil_any _ w5 _ n ic T1 (HT1.out.mod (Mod.ofBelow (F := fun _ => False) h25) (fun _ _ f => f)) hn)
  have HT25 := Lib.hid (HT2.out.mod (Mod.ofBelow (F := fun _ => False) h35) (fun _ _ f => f))
  clear hown5 hb5 h15 h25 h35 HN2 HR4 HT0 HT1 HT2 HR0 HB4 HB3 HB2 HAT1 HB1
  go_wp2_with fail
  refine HSP1.out.mono ?_
  rintro e w6 ⟨rfl, hm6⟩
  have HM6 := Lib.hid (HM5.out.mod hs4 hm6 (fun g hg => by omega))
  have HT06 := Lib.hid (HT05.out.mod hm6 (fun g h1 h2 => by omega))
  have HR06 := Lib.hid (HR05.out.mod hm6 (fun g h1 h2 h3 => by omega))
  have HSP2 := Lib.hid (spoil_any _ w6 _ nn nc T2 (HT25.out.mod hm6 (fun g h1 h2 => by omega)) (by omega))
  clear hm6 HSP1 HM5 HT05 HR05 HT25
  go_wp2_with fail
  refine HSP2.out.mono ?_
  rintro e w7 ⟨rfl, hm7⟩
  have HM7 := Lib.hid (HM6.out.mod hs4 hm7 (fun g hg => by omega))
  have HT07 := Lib.hid (HT06.out.mod hm7 (fun g h1 h2 => by omega))
  have hr07 := HR06.out.mod hm7 (fun g h1 h2 h3 => by omega)
  have HS7 := Lib.hid (HSM.out w7 _ _ l (hr07.own.at (by rw [HN.out]; omega) HRL.out) (HB.out.keep HM7.out.low))
  clear hm7 hr07 HSP2 HM6 HT06 HR06
  go_wp2_with fail
  refine HS7.out.mono ?_
  rintro e w8 ⟨rfl, hb8⟩
  have HM8 := Lib.hid (HM7.out.keep hb8)
  have HT08 := Lib.hid (HT07.out.mod (Mod.ofBelow (F := fun _ => False) hb8) (fun _ _ f => f))
  have HI8 := Lib.hid (HRI.out w8 _ (HB.out.keep HM8.out.low))
  clear hb8 HS7 HM7 HT07
  go_wp2_with fail
  refine HI8.out.mono ?_
  rintro e w9 ⟨rv9, rfl, hown9, hb9⟩
  have hat9 := hown9.at (by rw [HIN.out]; omega) HVL.out
  obtain ⟨ra9, rc9, rfl, _, _⟩ := hat9.form
  have HM9 := Lib.hid (HM8.out.keep hb9)
  have HT09 := Lib.hid (HT08.out.mod (Mod.ofBelow (F := fun _ => False) hb9) (fun _ _ f => f))
  have HS9 := Lib.hid (HSM.out w9 _ _ (invB l) (HM9.out.i2.own.at (by rw [HIN.out]; omega) HVL.out) hat9)
  clear hb9 hown9 hat9 HI8 HM8 HT08
  go_wp2_with fail
  refine HS9.out.mono ?_
  rintro e w10 ⟨rfl, hb10⟩
  have HM10 := Lib.hid (HM9.out.keep hb10)
  have HT010 := Lib.hid (HT09.out.mod (Mod.ofBelow (F := fun _ => False) hb10) (fun _ _ f => f))
  have HN10 := Lib.hid (HREF.out w10 _ (HB.out.keep HM10.out.low))
  clear hb10 HS9 HM9 HT09
  go_wp2_with fail
  refine HN10.out.mono ?_
  rintro e w11 ⟨rv11, rfl, hat11, hb11⟩
  obtain ⟨ra11, rc11, rfl, _, _⟩ := hat11.form
  have HM11 := Lib.hid (HM10.out.keep hb11)
  have HT011 := Lib.hid (HT010.out.mod (Mod.ofBelow (F := fun _ => False) hb11) (fun _ _ f => f))
  have HS11 := Lib.hid (HSM.out w11 _ _ (netC l) (HM11.out.n2.own.at (by rw [HNN.out]; omega) HNL.out) hat11)
  clear hb11 hat11 HN10 HM10 HT010
  go_wp2_with fail
  refine HS11.out.mono ?_
  rintro e w12 ⟨rfl, hb12⟩
  have HM12 := Lib.hid (HM11.out.keep hb12)
  have HSP3 := Lib.hid (spoil_any _ w12 _ n cc T0 (HT011.out.mod (Mod.ofBelow (F := fun _ => False) hb12) (fun _ _ f => f)) hn)
  clear hb12 HS11 HM11 HT011
  go_wp2_with fail
  refine HSP3.out.mono ?_
  rintro e w13 ⟨rfl, hm13⟩
  have HM13 := Lib.hid (HM12.out.mod hs4 hm13 (fun g hg => by omega))
  have HI13 := Lib.hid (HRI.out w13 _ (HB.out.keep HM13.out.low))
  clear hm13 HSP3 HM12
  go_wp2_with fail
  refine HI13.out.mono ?_
  rintro e w14 ⟨rv14, rfl, hown14, hb14⟩
  have hat14 := hown14.at (by rw [HIN.out]; omega) HVL.out
  obtain ⟨ra14, rc14, rfl, _, _⟩ := hat14.form
  have HM14 := Lib.hid (HM13.out.keep hb14)
  have HS14 := Lib.hid (HSM.out w14 _ _ (invB l) (HM14.out.i2.own.at (by rw [HIN.out]; omega) HVL.out) hat14)
  clear hb14 hown14 hat14 HI13 HM13
  go_wp2_with fail
  refine HS14.out.mono ?_
  rintro e w15 ⟨rfl, hb15⟩
  have HM15 := Lib.hid (HM14.out.keep hb15)
  have HN15 := Lib.hid (HREF.out w15 _ (HB.out.keep HM15.out.low))
  clear hb15 HS14 HM14
  go_wp2_with fail
  refine HN15.out.mono ?_
  rintro e w16 ⟨rv16, rfl, hat16, hb16⟩
  obtain ⟨ra16, rc16, rfl, _, _⟩ := hat16.form
  have HM16 := Lib.hid (HM15.out.keep hb16)
  have HS16 := Lib.hid (HSM.out w16 _ _ (netC l) (HM16.out.n2.own.at (by rw [HNN.out]; omega) HNL.out) hat16)
  clear hb16 hat16 HN15 HM15
  go_wp2_with fail
  refine HS16.out.mono ?_
  rintro e w17 ⟨rfl, hb17⟩
  have HM17 := Lib.hid (HM16.out.keep hb17)
  have HAW := Lib.hid (awake10 _ (HG.out.below HM17.out.low))
  clear hb17 HS16 HM16
  go_wp2_with fail
  refine HAW.out.mono ?_
  rintro e w18 ⟨rfl, hb18⟩
  have HM18 := Lib.hid (HM17.out.keep hb18)
  clear hb18
  go_wp2_with fail
  go_ret
  exact ⟨by first | rfl | simp, HM18.out.low⟩
end Go.Proofs.YtgjknekoehfdfaaGreatDoor
