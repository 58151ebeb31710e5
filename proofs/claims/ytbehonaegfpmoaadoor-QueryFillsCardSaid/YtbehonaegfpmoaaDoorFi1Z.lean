/- QueryFills, walked. -/
import Derived.Test.YtbehonaegfpmoaaDoorGr
import Derived.Test.YtbehonaegfpmoaaDoorMs9Z
namespace Go.Proofs.YtbehonaegfpmoaaDoor
open Go.RowKit
set_option linter.unusedVariables false

/-- The row while it is filled. -/
def rowK (V : List (List UInt8)) (vs : List Vl) (ts : List Trm) (k : Nat) : List Vl := rowOf V vs (ts.take k) ++ (ts.drop k).map fun _ => zV
theorem rowK_len (V : List (List UInt8)) (vs : List Vl) (ts : List Trm) (k : Nat) : (rowK V vs ts k).length = ts.length := by
  unfold rowK rowOf
  simp
  omega
theorem rowK_set {V : List (List UInt8)} {vs : List Vl} {ts : List Trm} {k : Nat} {t : Trm} (h : ts[k]? = some t) : (rowK V vs ts k).set k (ofT V vs t) = rowK V vs ts (k + 1) := by
  have hk := (List.getElem?_eq_some_iff.1 h).1
  have hl : (rowOf V vs (ts.take k)).length = k := by
    unfold rowOf
    rw [List.length_map, List.length_take]
    omega
  have e1 : rowOf V vs (ts.take (k + 1)) = rowOf V vs (ts.take k) ++ [ofT V vs t] := by
    unfold rowOf
    rw [List.take_add_one, h]
    simp
  have e2 : ts.drop k = ts[k] :: ts.drop (k + 1) := List.drop_eq_getElem_cons hk
  unfold rowK
  rw [e1, e2, List.map_cons, List.set_append_right _ _ (by omega), hl, Nat.sub_self, List.set_cons_zero, List.append_assoc]
  rfl
theorem rowK_zero (V : List (List UInt8)) (vs : List Vl) (ts : List Trm) : rowK V vs ts 0 = ts.map fun _ => zV := by
  unfold rowK rowOf
  simp
theorem rowK_all (V : List (List UInt8)) (vs : List Vl) (ts : List Trm) : rowK V vs ts ts.length = rowOf V vs ts := by
  unfold rowK
  simp
theorem zeros_mapT (V : List Trm) : List.replicate V.length zV.cells = (V.map fun _ => zV).map Vl.cells := by
  induction V with
  | nil => rfl
  | cons a V ih => simp [List.replicate_succ, ih]

theorem Mod.own' {b g : Nat} {w0 w w' : World} (hz : w0.heap.size = g) (h : Below g w0 w) (hm : Mod (fun k => k = b) w w') (hb : g ≤ b) : Below g w0 w' := by
  subst hz
  exact Mod.own h hm hb
theorem StrsAt.keep' {g : Nat} {w0 w : World} {v : Value} {l : List (List UInt8)} (hz : w0.heap.size = g) (h : StrsAt w0 v l) (hb : Below g w0 w) : StrsAt w v l := by
  subst hz
  exact h.keep hb
theorem Blk.below' {g b : Nat} {w0 w : World} {t : TypeId} {cs : Array Value} (hz : w0.heap.size = g) (h : Blk w0 b t cs) (hb : Below g w0 w) : Blk w b t cs := by
  subst hz
  exact h.below hb h.lt
theorem Below.alloc' {g : Nat} {w0 w : World} (hz : w0.heap.size = g) (h : Below g w0 w) (o : Obj) : Below g w0 (w.alloc o) := by
  subst hz
  exact balloc h o

set_option maxHeartbeats 8000000 in
set_option maxRecDepth 100000 in
theorem fills_law (w : World) (rel : ByteArray) (tv rv : Value) (ts : List Trm) (vs : List Vl) (h : RowAt w tv 4 (ts.map Trm.cells)) (hr : RowAt w rv 3 (vs.map Vl.cells)) (hn : ts.length ≤ 2932031007317) (hv : vs.length ≤ 4398046511104) (hg : Glob w) :
    Calls Tryd.prog 6 #[.agg #[.string rel, tv], rv] w fun e w' => e = .returned (.bool true) ∧ Below w.heap.size w w' := by
  obtain ⟨i0, hi0, hz0, hz1, hz2⟩ := info_parts Tryd.infoVal
  obtain ⟨ad, cap, rfl, hnc, hcm⟩ := h.form
  obtain ⟨rd, rcap, rfl, hrc, hrm⟩ := hr.form
  simp only [List.length_map] at h hr hnc hrc ⊢
  have hvl := atomVars_len ts
  have hfm : (atomVars ts).length ≤ vs.length → matchR ts (rowOf (atomVars ts) vs ts) = some (vs.take (atomVars ts).length) := fills_match vs ts
  have hfl := fills_long (atomVars ts) vs ts zV
  have hmem : ∀ t ∈ ts, t.x ≠ [] → t.x ∈ atomVars ts := fun t ht hx => (mem_atomVars ts _).2 ⟨hx, t, ht, rfl⟩
  have hca : ∀ W, RowAt W (.slice ad ts.length cap) 4 (ts.map Trm.cells) → Calls Tryd.prog 25 #[.agg #[.string rel, .slice ad ts.length cap]] W fun e w' => ∃ v, e = .returned (.agg #[.string rel, v]) ∧ w'.ownsRow W.heap.size 54 4 v ts.length (ts.map Trm.cells).flatten ∧ Below W.heap.size W w' := fun W hh => copyAtom_any W rel _ ts hh hn
  have hav : ∀ (W : World) (a : Value), RowAt W a 4 (ts.map Trm.cells) → Calls Tryd.prog 24 #[.agg #[.string rel, a]] W fun e w' => ∃ v, e = .returned v ∧ OwnS W.heap.size w' v (atomVars ts) ∧ Below W.heap.size W w' := fun W a hh => atomVars_any W rel a ts hh hn
  have hrv : ∀ (W : World) (a : Value), RowAt W a 4 (ts.map Trm.cells) → Calls Tryd.prog 26 #[.agg #[.string rel, a]] W fun e w' => ∃ v, e = .returned v ∧ OwnS W.heap.size w' v (atomVars ts) ∧ Below W.heap.size W w' := fun W a hh => refAtomVars_any W rel a ts hh hn
  have hot : ∀ W v B, World.ownsRow W B 54 4 v ts.length (ts.map Trm.cells).flatten → RowAt W v 4 (ts.map Trm.cells) := fun W v B hh => ownTrm hh hn
  have hma : ∀ (W : World) (a b : Value) (us : List Vl), RowAt W a 4 (ts.map Trm.cells) → RowAt W b 3 (us.map Vl.cells) → us.length ≤ 4398046511104 → Calls Tryd.prog 27 #[.agg #[.string rel, a], b] W (MatchPost W (matchR ts us)) := fun W a b us h1 h2 h3 => match_any W rel a b ts us h1 h2 hn h3
  have hrk : ∀ (V : List (List UInt8)) (k : Nat), (rowK V vs ts k).length = ts.length := fun V k => rowK_len V vs ts k
  have hrs : ∀ (V : List (List UInt8)) (k : Nat) (t : Trm), ts[k]? = some t → (rowK V vs ts k).set k (ofT V vs t) = rowK V vs ts (k + 1) := fun V k t ht => rowK_set ht
  have hr0 : ∀ V, (madeCells zV.cells.toArray (ts.length * 3)).toList = ((rowK V vs ts 0).map Vl.cells).flatten := fun V => by
    have := made_rows zV.cells ts.length (by decide)
    rw [zeros_mapT, ← rowK_zero V vs ts] at this
    exact this
  have hra : ∀ V, rowK V vs ts ts.length = rowOf V vs ts := fun V => rowK_all V vs ts
  generalize hV : atomVars ts = V at *
  generalize hN : ts.length = n at *
  generalize hM : vs.length = m at *
  have HN := Lib.hid hN
  have HM := Lib.hid hM
  have HFM := Lib.hid hfm
  have HFL := Lib.hid hfl
  have HMEM := Lib.hid hmem
  have HCA := Lib.hid hca
  have HAV := Lib.hid hav
  have HRV := Lib.hid hrv
  have HOT := Lib.hid hot
  have HMA := Lib.hid hma
  have HRK := Lib.hid hrk
  have HRS := Lib.hid hrs
  have HR0 := Lib.hid hr0
  have HRA := Lib.hid hra
  have HR := Lib.hid h
  have HRR := Lib.hid hr
  have BX := Lib.hid (Blk.new w 39 #[.string rel, .slice ad n cap])
  have hb0 : Below w.heap.size w (w.alloc (.cells #[.string rel, .slice ad n cap] 39)) := balloc (Below.refl _ _) _
  have HB0 := Lib.hid hb0
  have HG := Lib.hid hg
  have HC0 := Lib.hid (hca _ (h.keep hb0))
  clear hN hM hV hfm hfl hmem hca hav hrv hot hma hrk hrs hr0 hra h hr hb0 hg
  go_enter Tryd.func6, Tryd.ntmps6
  go_wp2_with fail
  refine HC0.out.mono ?_
  rintro e w1 ⟨tv1, rfl, hown1, hb1⟩
  obtain ⟨ta, tc, rfl⟩ := own_sl hown1
  have HT1 := Lib.hid (HOT.out _ _ _ hown1)
  have HB1 := Lib.hid (HB0.out.trans (hb1.mono (by simp)))
  have HX1 := Lib.hid (BX.out.below hb1 (by simp))
  have HA1 := Lib.hid (HAV.out w1 _ HT1.out)
  clear hown1 hb1 HC0
  go_wp2_with fail
  refine HA1.out.mono ?_
  rintro e w2 ⟨v2, rfl, hown2, hb2⟩
  have hst2 : StrsAt w2 v2 V := hown2.strs (by omega)
  obtain ⟨va, vc, rfl, hvc, hvm⟩ := hst2.form
  have HST2 := Lib.hid hst2
  have HB2 := Lib.hid (HB1.out.trans (hb2.mono HB1.out.size))
  have hx2 := HX1.out.below hb2 HX1.out.lt
  have x0 := hx2.cell 0
  have x1 := hx2.cell 1
  simp only [List.getElem?_toArray, List.getElem?_cons_zero, List.getElem?_cons_succ] at x0 x1
  have hxl := hx2.lt
  have HX2 := Lib.hid hx2
  have HA2 := Lib.hid (HRV.out w2 (.slice ad n cap) (HR.out.keep HB2.out))
  clear hown2 hst2 hb2 hx2 HA1
  go_wp2_with fail
  refine HA2.out.mono ?_
  rintro e w3 ⟨v3, rfl, hown3, hb3⟩
  have hst3 : StrsAt w3 v3 V := hown3.strs (by omega)
  have HST3 := Lib.hid (HST2.out.keep hb3)
  have hsm := sameTexts_any w3 _ _ V V HST3.out hst3
  rw [decide_eq_true rfl] at hsm
  obtain ⟨v3a, v3c, rfl, _, _⟩ := hst3.form
  have HSM := Lib.hid hsm
  have HB3 := Lib.hid (HB2.out.trans (hb3.mono HB2.out.size))
  have HX3 := Lib.hid (HX2.out.below hb3 HX2.out.lt)
  clear hown3 hst3 hsm hb3 HA2 x0 x1 hxl
  go_wp2_with fail
  refine HSM.out.mono ?_
  rintro e w4 ⟨rfl, hb4⟩
  have hbw4 := HB3.out.trans (hb4.mono HB3.out.size)
  have HB4 := Lib.hid hbw4
  have hx4 := HX3.out.below hb4 HX3.out.lt
  have x0 := hx4.cell 0
  have x1 := hx4.cell 1
  simp only [List.getElem?_toArray, List.getElem?_cons_zero, List.getElem?_cons_succ] at x0 x1
  have hxl := hx4.lt
  have HX4 := Lib.hid hx4
  have HST4 := Lib.hid (HST3.out.keep hb4)
  have HAW := Lib.hid (awake09 w4 (HG.out.below hbw4))
  clear hb4 hx4 hbw4 HSM
  by_cases hlt : m < V.length
  · have hd : decide ((m : Int) < (V.length : Int)) = true := by simp; omega
    go_wp2_with fail
    refine HAW.out.mono ?_
    rintro e w5 ⟨rfl, hb5⟩
    have HB5 := Lib.hid (HB4.out.trans (hb5.mono HB4.out.size))
    clear hb5
    go_wp2_with fail
    go_ret
    exact ⟨rfl, HB5.out⟩
  · have hd : decide ((m : Int) < (V.length : Int)) = false := by simp; omega
    go_wp2_with (at_make; refine wpList_make_full _ rfl _ _ 44 rfl w.heap.size 52 i0 (.agg #[.int .i64 0, .int .i64 0, .string ⟨#[]⟩]) 3 Tryd.underlying44 hi0 hz0 hz1 _ _ _ _ n rfl rfl rfl rfl ?b2 ?b3 ?b4 ?_)
    case b2 => rw [hz2]; omega
    case b3 => unfold maxLen; omega
    case b4 => exact HB4.out.size
    intro w5 hown5 hgrow5
    rw [show (madeCells #[.int .i64 0, .int .i64 0, .string ⟨#[]⟩] (n * 3)).toList = _ from HR0.out V] at hown5
    have HO5 := Lib.hid hown5
    have hb5 : Below w4.heap.size w4 w5 := Below.grown (Below.refl _ _) hgrow5 (Nat.le_refl _) (fun q hq => by cases hq)
    have HB5 := Lib.hid hb5
    have x0 := (HX4.out.grown hgrow5 (by simp)).cell 0
    have x1 := (HX4.out.grown hgrow5 (by simp)).cell 1
    simp only [List.getElem?_toArray, List.getElem?_cons_zero, List.getElem?_cons_succ] at x0 x1
    have hxl := (HX4.out.grown hgrow5 (by simp)).lt
    have HXG := Lib.hid HX4.out.lt
    have HWG := Lib.hid HB4.out.size
    generalize hgz : w4.heap.size = g at *
    have HGZ := Lib.hid hgz
    clear hown5 hgrow5 hgz hb5
    go_wp2_with fail
    go_loopw [34] (fun i wr => ∃ k : Nat, k ≤ n ∧ i = .int .i64 k ∧ Hid (wr.ownsRow w.heap.size 52 3 (.slice (some ⟨g, 0, none⟩) n n) n ((rowK V vs ts k).map Vl.cells).flatten) ∧ Hid (Below g w4 wr)) (fun i _ => n - (intOf i).toNat)
    case atStart => exact ⟨0, Nat.zero_le _, rfl, HO5, HB5⟩
    case round =>
      obtain ⟨k, hk, rfl, OW, BG⟩ := hrel
      have hbw : Below w.heap.size w wr := HB4.out.trans (BG.out.mono HWG.out)
      have BW := Lib.hid hbw
      by_cases hkn : k < n
      · obtain ⟨t, ht⟩ : ∃ t, ts[k]? = some t := ⟨ts[k]'(by rw [HN.out]; exact hkn), List.getElem?_eq_getElem (by rw [HN.out]; exact hkn)⟩
        obtain ⟨tb, to, tcap, htv, _, _, htbl, htc⟩ := (HR.out.keep BW.out).get (i := k) (x := t.cells) (by simp [ht])
        simp only [List.length_map, HN.out, Value.slice.injEq, true_and] at htv
        obtain ⟨rfl, rfl⟩ := htv
        have t0 := htc 0 _ rfl
        have t1 := htc 1 _ rfl
        have t2 := htc 2 _ rfl
        have t3 := htc 3 _ rfl
        simp only [Nat.add_zero] at t0
        have hdk : decide ((k : Int) < 0) = false := by simp
        have hdn : decide ((n : Int) ≤ (k : Int)) = false := by simp; omega
        have HT := Lib.hid ht
        have HTB := Lib.hid (Blk.new wr 54 #[.string ⟨t.x.toArray⟩, .int .i64 t.k, .int .i64 t.n, .string ⟨t.t.toArray⟩])
        have HRL : Hid (((rowK V vs ts k).map Vl.cells).length = n) := Lib.hid (by rw [List.length_map]; exact HRK.out V k)
        have hgl : g < wr.heap.size := (own_cell OW.out hkn (j := 0) (by decide)).2.2
        have hzz := BW.out.size
        clear htc ht hbw
        go_wp2_with (refine wpList_store_elem rfl 52 _ _ rfl g k 52 3 w.heap.size n n ((rowK V vs ts k).map Vl.cells) _ rfl rfl (OW.out.alloc _) (vl_len _) HRL.out hkn rfl (by kernel_rfl) (by simp [Value.oneCell']) ?_)
        intro w6 hs6 hm6 hz6
        have hs7 : w6.ownsRow w.heap.size 52 3 (.slice (some ⟨g, 0, none⟩) n n) n (((rowK V vs ts k).set k t.vl).map Vl.cells).flatten := by
          rw [List.map_set]
          exact hs6
        have hb6 : Below g w4 w6 := Mod.own' HGZ.out (Below.alloc' HGZ.out BG.out _) hm6 (Nat.le_refl _)
        have htb6 := HTB.out.mod hm6 (by omega)
        have y0 := htb6.cell 0
        simp only [List.getElem?_toArray, List.getElem?_cons_zero] at y0
        have hyl := htb6.lt
        have HS7 := Lib.hid hs7
        have HB6 := Lib.hid hb6
        have HTB6 := Lib.hid htb6
        clear hs6 hm6 hs7 hb6 htb6
        by_cases hx : t.x = []
        · have hst := HRS.out V k t HT.out
          rw [show ofT V vs t = t.vl by unfold ofT; rw [if_pos hx]] at hst
          have HST := Lib.hid hst
          rw [hx] at y0
          clear hst hx
          go_wp2_with fail
          go_roundw
          case rel => exact ⟨k + 1, by omega, by go_num, Lib.hid (by rw [← HST.out]; exact HS7.out), HB6⟩
          case measure => simp [intOf]; omega
        · have he2 : t.x.isEmpty = false := by
            cases hxx : t.x with
            | nil => exact absurd hxx hx
            | cons _ _ => rfl
          have he3 : (!t.x.isEmpty) = true := by rw [he2]; rfl
          have hx0 := ba_empty hx
          have hmm := HMEM.out t (List.mem_of_getElem? HT.out) hx
          have hil := List.idxOf_lt_length_of_mem hmm
          have hid : idxI V t.x = (V.idxOf t.x : Int) := by unfold idxI; rw [if_pos hmm]
          have hat := refAt_any w6 _ V t.x (StrsAt.keep' HGZ.out HST4.out HB6.out)
          rw [hid] at hat
          obtain ⟨u, hu⟩ : ∃ u, vs[V.idxOf t.x]? = some u := ⟨vs[V.idxOf t.x]'(by rw [HM.out]; omega), List.getElem?_eq_getElem (by rw [HM.out]; omega)⟩
          have hst := HRS.out V k t HT.out
          rw [show ofT V vs t = u by unfold ofT; rw [if_neg hx, hu]; rfl] at hst
          have HST := Lib.hid hst
          have HAT := Lib.hid hat
          obtain ⟨rb, ro, rcap', hrv, _, _, hrbl, hrc'⟩ := (HRR.out.keep (HB4.out.trans (HB6.out.mono HWG.out))).get (i := V.idxOf t.x) (x := u.cells) (by simp [hu])
          simp only [List.length_map, HM.out, Value.slice.injEq, true_and] at hrv
          obtain ⟨rfl, rfl⟩ := hrv
          have r0 := hrc' 0 _ rfl
          have r1 := hrc' 1 _ rfl
          have r2 := hrc' 2 _ rfl
          simp only [Nat.add_zero] at r0
          generalize V.idxOf t.x = p at *
          have hdp : decide ((p : Int) < 0) = false := by simp
          have hdp2 : decide ((m : Int) ≤ (p : Int)) = false := by simp; omega
          have HRL2 : Hid ((((rowK V vs ts k).set k t.vl).map Vl.cells).length = n) := Lib.hid (by rw [List.length_map, List.length_set]; exact HRK.out V k)
          have hpm : p < m := by omega
          clear hst hx hmm hid hat hu hrc'
          go_wp2_with fail
          refine HAT.out.mono ?_
          rintro e w7 ⟨rfl, rfl⟩
          go_wp2_with (refine wpList_store_elem rfl 52 _ _ rfl g k 52 3 w.heap.size n n (((rowK V vs ts k).set k t.vl).map Vl.cells) _ rfl rfl HS7.out (vl_len _) HRL2.out hkn rfl (by kernel_rfl) (by simp [Value.oneCell']) ?_)
          intro w8 hs8 hm8 hz8
          have hs9 : w8.ownsRow w.heap.size 52 3 (.slice (some ⟨g, 0, none⟩) n n) n ((rowK V vs ts (k + 1)).map Vl.cells).flatten := by
            have e1 : (rowK V vs ts (k + 1)).map Vl.cells = ((rowK V vs ts k).map Vl.cells).set k u.cells := by
              rw [← HST.out, List.map_set]
            rw [e1]
            exact hs8
          have HS9 := Lib.hid hs9
          have HB8 := Lib.hid (Mod.own' HGZ.out HB6.out hm8 (Nat.le_refl _))
          clear hs8 hm8 hz8 hs9
          go_wp2_with fail
          go_roundw
          case rel => exact ⟨k + 1, by omega, by go_num, HS9, HB8⟩
          case measure => simp [intOf]; omega
      · obtain rfl : k = n := by omega
        have hxb := Blk.below' HGZ.out HX4.out BG.out
        have b0 := hxb.cell 0
        have b1 := hxb.cell 1
        simp only [List.getElem?_toArray, List.getElem?_cons_zero, List.getElem?_cons_succ] at b0 b1
        have hbl := hxb.lt
        have HXB := Lib.hid hxb
        have hrow := OW.out
        rw [HRA.out V] at hrow
        have hrl : (rowOf V vs ts).length = k := by rw [← HRA.out V]; exact HRK.out V k
        have hra : RowAt wr (.slice (some ⟨g, 0, none⟩) k k) 3 ((rowOf V vs ts).map Vl.cells) := ownVl (by rw [hrl]; exact hrow) (by rw [hrl]; omega)
        have HRW := Lib.hid hra
        have HRL := Lib.hid hrl
        have HC := Lib.hid (HCA.out wr (HR.out.keep BW.out))
        have hgl : g ≤ wr.heap.size := by have := BG.out.size; have := HGZ.out; omega
        have HST := Lib.hid (StrsAt.keep' HGZ.out HST4.out BG.out)
        obtain ⟨L, hL⟩ : ∃ L, L = vs.take V.length := ⟨_, rfl⟩
        have hfmv := HFM.out (by omega)
        rw [← hL] at hfmv
        have hvt : L.length = V.length := by rw [hL, List.length_take, HM.out]; omega
        have HFMV := Lib.hid hfmv
        have HLL := Lib.hid hL
        have HVT := Lib.hid hvt
        clear hxb hrow hra hrl HRK HRS HR0 HRA OW hgl hfmv hL hvt
        go_wp2_with fail
        refine HC.out.mono ?_
        rintro e w6 ⟨v6, rfl, hown6, hb6⟩
        have HT6 := Lib.hid (HOT.out _ _ _ hown6)
        obtain ⟨v6a, v6c, rfl⟩ := own_sl hown6
        have HB6 := Lib.hid (BW.out.trans (hb6.mono BW.out.size))
        have HXB6 := Lib.hid (HXB.out.below hb6 HXB.out.lt)
        have HRW6 := Lib.hid (HRW.out.keep hb6)
        have HST6 := Lib.hid (HST.out.keep hb6)
        have hm6 := HMA.out w6 (.slice v6a k v6c) (.slice (some ⟨g, 0, none⟩) k k) (rowOf V vs ts) HT6.out HRW6.out (by rw [HRL.out]; omega)
        rw [HFMV.out] at hm6
        have HM6 := Lib.hid hm6
        clear hown6 hb6 hm6 b0 b1 hbl
        go_wp2_with fail
        refine HM6.out.mono ?_
        rintro e w7 ⟨v7, rfl, hown7, hb7⟩
        have hra7 : RowAt w7 v7 3 (L.map Vl.cells) := ownVl' hown7 (by rw [HVT.out]; omega)
        rw [HVT.out] at hown7
        obtain ⟨v7a, v7c, rfl⟩ := own_sl hown7
        have HGOT := Lib.hid hra7
        have hxb := HXB6.out.below hb7 HXB6.out.lt
        have b0 := hxb.cell 0
        have b1 := hxb.cell 1
        simp only [List.getElem?_toArray, List.getElem?_cons_zero, List.getElem?_cons_succ] at b0 b1
        have hbl := hxb.lt
        have HB7 := Lib.hid (HB6.out.trans (hb7.mono HB6.out.size))
        have HRW7 := Lib.hid (HRW6.out.keep hb7)
        have HC7 := Lib.hid (HCA.out w7 (HR.out.keep HB7.out))
        clear hown7 hra7 hb7 hxb
        go_wp2_with fail
        refine HC7.out.mono ?_
        rintro e w8 ⟨v8, rfl, hown8, hb8⟩
        have HT8 := Lib.hid (HOT.out _ _ _ hown8)
        obtain ⟨v8a, v8c, rfl⟩ := own_sl hown8
        have HB8 := Lib.hid (HB7.out.trans (hb8.mono HB7.out.size))
        have HGOT8 := Lib.hid (HGOT.out.keep hb8)
        have hc8 := copyRow_any w8 (.slice (some ⟨g, 0, none⟩) k k) (rowOf V vs ts) (HRW7.out.keep hb8) (by rw [HRL.out]; omega)
        rw [HRL.out] at hc8
        have HC8 := Lib.hid hc8
        clear hown8 hb8 hc8 b0 b1 hbl
        go_wp2_with fail
        refine HC8.out.mono ?_
        rintro e w9 ⟨v9, rfl, hown9, hb9⟩
        have HB89 := Lib.hid hb9
        have hz89 := hb9.size
        have HB9 := Lib.hid (HB8.out.trans (hb9.mono HB8.out.size))
        obtain ⟨v9a, v9c, rfl⟩ := own_sl hown9
        have HO9 := Lib.hid hown9
        clear hown9 hb9
        go_wp2_with (at_builtin; refine wpList_append_lies _ rfl (.tmp 69) (.tmp 71) 44 rfl w8.heap.size 52 i0 (.agg #[.int .i64 0, .int .i64 0, .string ⟨#[]⟩]) 3 32 Tryd.underlying44 hi0 hz0 hz1 hz2 rfl (by decide) (.slice v9a k v9c) k _ rfl (HO9.out.alloc _) ⟨_, 0, none⟩ 1 1 [.int .i64 0, .int .i64 0, .string ⟨#[]⟩] rfl rfl (World.news_of_block (Blk.new _ _ _)) (by simp [Value.oneCell']) (by decide) ?c3 ?c5 ?c4 _ rfl ?_)
        case c3 => unfold maxLen; omega
        case c5 => omega
        case c4 => simp; omega
        intro g2 cap2 w10 hown10 hgrow10 hat10 hlt10
        have hb10 : Below w8.heap.size w8 w10 := (balloc HB89.out _).grown hgrow10 (by simp; exact Nat.le_succ_of_le HB89.out.size) (fun q hq => (HO9.out.lt q hq).1)
        have hrl2 : (rowOf V vs ts ++ [zV]).length = k + 1 := by rw [List.length_append, HRL.out]; rfl
        have hrow2 : RowAt w10 (.slice (some ⟨g2, 0, none⟩) (k + 1) cap2) 3 ((rowOf V vs ts ++ [zV]).map Vl.cells) := ownVl (B := w8.heap.size) (by
          rw [hrl2, List.map_append, List.flatten_append]
          simpa [Vl.cells, zV] using hown10) (by rw [hrl2]; omega)
        have hm10 := HMA.out w10 (.slice v8a k v8c) (.slice (some ⟨g2, 0, none⟩) (k + 1) cap2) (rowOf V vs ts ++ [zV]) (HT8.out.keep hb10) hrow2 (by rw [hrl2]; omega)
        rw [HFL.out] at hm10
        have HM10 := Lib.hid hm10
        have HB10 := Lib.hid (HB8.out.trans (hb10.mono HB8.out.size))
        have HGOT10 := Lib.hid (HGOT8.out.keep hb10)
        clear hown10 hgrow10 hat10 hlt10 hb10 hrl2 hrow2 hm10
        go_wp2_with fail
        refine HM10.out.mono ?_
        rintro e w11 ⟨rfl, hb11⟩
        have hbw11 := HB10.out.trans (hb11.mono HB10.out.size)
        have HB11 := Lib.hid hbw11
        have HGOT11 := Lib.hid (HGOT10.out.keep hb11)
        have HA11 := Lib.hid (awake09 w11 (HG.out.below hbw11))
        clear hb11 hbw11
        go_wp2_with fail
        refine HA11.out.mono ?_
        rintro e w12 ⟨rfl, hb12⟩
        have hbw12 := HB11.out.trans (hb12.mono HB11.out.size)
        have HB12 := Lib.hid hbw12
        have hq : RowAt w12 (.slice rd V.length rcap) 3 (L.map Vl.cells) := by
          rw [HLL.out, List.map_take]
          exact (HRR.out.keep hbw12).take (by rw [List.length_map, HM.out]; omega) (by rw [List.length_map, HM.out])
        have hsm := sameRow_any w12 (.slice v7a V.length v7c) (.slice rd V.length rcap) L L (HGOT11.out.keep hb12) hq
        rw [show sameV L L = true from decide_eq_true rfl] at hsm
        have HSM := Lib.hid hsm
        have hvr : V.length ≤ rcap := by omega
        clear hb12 hbw12 hq hsm
        go_wp2_with fail
        refine HSM.out.mono ?_
        rintro e w13 ⟨rfl, hb13⟩
        have HB13 := Lib.hid (HB12.out.trans (hb13.mono HB12.out.size))
        clear hb13
        go_wp2_with fail
        go_ret
        exact ⟨rfl, HB13.out⟩
theorem fills_card (rel : ByteArray) (tv rv : Value) (w : World) {ts : List Trm} {vs : List Vl} (h : RowAt w tv 4 (ts.map Trm.cells)) (hn : ts.length ≤ 2932031007317) (hr : RowAt w rv 3 (vs.map Vl.cells)) (hv : vs.length ≤ 4398046511104) (hg : Glob w) :
    Calls Tryd.prog 6 #[.agg #[.string rel, tv], rv] w fun e w' => e = .returned (.bool true) ∧ Below w.heap.size w w' := fills_law w rel tv rv ts vs h hr hn hv hg
end Go.Proofs.YtbehonaegfpmoaaDoor
