/- schema.Parse, walked. -/
import Derived.Test.YtbehonaegfpmoaaDoorSc1Z
import Derived.Test.YtbehonaegfpmoaaDoorKc1Z
namespace Go.Proofs.YtbehonaegfpmoaaDoor
open Go.RowKit
set_option linter.unusedVariables false

theorem all2_clC {w : World} : ∀ {css : List (List Value)} {xs : List ClP}, All2 (ElOk 2 ElC w) css xs → css = xs.map fun x => (clC x).cells
  | [], [], _ => rfl
  | c :: css, x :: xs, h => by
    rw [List.map_cons, ← all2_clC h.2]
    have h1 : c = (clC x).cells := h.1.2.2
    rw [h1]
  | [], _ :: _, h => h.elim
  | _ :: _, [], h => h.elim
theorem flat_map {α : Type} (f : α → List Value) (l : List α) : (l.map f).flatten = l.flatMap f := by
  induction l with
  | nil => rfl
  | cons a l ih => simp [ih]

theorem cols_any {w : World} {b r bp : Nat} {c : List Tok} {vt : Value} {B : Nat} (hi : InB w b r) (hp : PlB B w bp []) (h : Rs w r c vt) (hB : B ≤ r) (hw : B ≤ w.heap.size) (hbp : B ≤ bp) :
    Calls Tryd.prog 80 #[.pointer (some ⟨r, 0, none⟩), .func (.func 81) #[] #[.pointer (some ⟨b, 0, none⟩), .pointer (some ⟨bp, 0, none⟩)]] w
      (PPost (fun xs c' v w' => ColsOwn w.heap.size w' v (xs.map clC) ∧ InB w' b r ∧ PlB B w' bp (xs.map (·.2.2)) ∧ Rs w' r c' vt) B ClTs w (listP colP c)) := by
  refine (list_Col colP ElC (JC B b r bp) B ClTs r vt #[.pointer (some ⟨b, 0, none⟩), .pointer (some ⟨bp, 0, none⟩)] col_less hB (by simp) (by decide) (fun w w' xs hm hj => ⟨Blk.mt hj.1 hm (by decide), hj.2.mt hm (by decide) (by decide)⟩) (fun _ _ _ _ _ h => h) ?_ w c h ⟨hi, by simpa using hp⟩ hw).mono ?_
  · intro w xs c hw hj hr hl
    exact colClo_any hj.1 hj.2 hr hB hw hbp hl
  · intro e w' hp
    refine hp.mono fun xs c' v w' hh => ?_
    obtain ⟨css, h1, h2, h3, h4⟩ := hh
    refine ⟨?_, h3.1, h3.2, h4⟩
    rw [all2_clC h2, flat_map] at h1
    unfold ColsOwn
    rw [List.length_map, List.flatMap_map]
    exact h1

set_option maxHeartbeats 8000000 in
set_option maxRecDepth 100000 in
theorem sch_good (s : ByteArray) (w : World) (ts : List Tok) (hop : ∀ W, Below w.heap.size w W → Calls Tryd.prog 55 #[.string s] W fun e w' => ∃ r vt, e = .returned (.pointer (some ⟨r, 0, none⟩)) ∧ W.heap.size ≤ r ∧ Rs w' r ts vt ∧ Below W.heap.size W w') :
    Calls Tryd.prog 32 #[.string s] w (SPost w (schT ts)) := by
  have hmf : ∀ (fn : Fn) (first cap : Array Value) (w : World), (Instr.makeFunc fn first cap).run Tryd.prog w = .ok (.func fn first cap) w := fun _ _ _ _ => rfl
  have hf1 : ∀ (a b c d e f : Value) (w : World), (Instr.field 106 (.agg #[a, b, c, d, e, f]) 1).run Tryd.prog w = .ok b w := fun _ _ _ _ _ _ _ => by kernel_rfl
  have hps := PS.start w
  have ho := hop _ hps.b
  have HPS := Lib.hid hps
  have HO := Lib.hid ho
  obtain ⟨Q, hQ⟩ : ∃ Q, Q = schT ts := ⟨_, rfl⟩
  rw [← hQ]
  have HQ := Lib.hid hQ
  clear hps ho hop hQ
  go_enter_defers Tryd.func32, Tryd.ntmps32
  go_wp2_with fail
  refine HO.out.mono ?_
  rintro e w1 ⟨r, vt, rfl, hr, hrs, hb⟩
  have hp := HPS.out.keep hb
  have hrB : w.heap.size + 3 ≤ r := by simp at hr; omega
  have hp1 : PS w w.heap.size #[.string ⟨#[]⟩, .slice none 0 0] (w1.alloc (.cells #[.pointer (some ⟨r, 0, none⟩)] 96)) := hp.keep (balloc (Below.refl _ _) _)
  have hi : InB (w1.alloc (.cells #[.pointer (some ⟨r, 0, none⟩)] 96)) w1.heap.size r := Blk.new _ _ _
  have hr1 := hrs.keep (balloc (Below.refl _ w1) (.cells #[.pointer (some ⟨r, 0, none⟩)] 96))
  have hnb : w.heap.size + 3 ≤ w1.heap.size := hp.s
  have htk := take_rs (B := w.heap.size + 3) (Ts := [165]) hr1 1 [] _ (tx_nil _) hrB (by simp)
  have HP := Lib.hid hp1
  have HI := Lib.hid hi
  have hlen := hr1.len
  clear hb hp hrs hp1 hi hr1 hr HPS HO
  cases h0 : tk 1 [] ts with
  | bad a f =>
    have hq := HQ.out
    rw [schT_bad1 h0] at hq
    subst hq
    rw [h0] at htk
    have HC := Lib.hid htk
    clear h0 htk
    go_wp2_with fail
    refine HC.out.mono ?_
    rintro e wx ⟨rfl, hm⟩
    have HPX := Lib.hid (HP.out.mt hm)
    clear hm
    go_wp2_with fail
    exact sch_door HPX.out rfl rfl rfl
  | ok t c1 =>
    rw [h0] at htk
    have HC := Lib.hid htk
    have H0 := Lib.hid h0
    have hl1 := tk_less _ _ _ _ _ h0
    clear h0 htk
    go_wp2_with fail
    refine HC.out.mono ?_
    rintro e w2 ⟨v2, rfl, ⟨rfl, hr2⟩, hm2⟩
    have hp2 := HP.out.mt hm2
    have hi2 : InB w2 w1.heap.size r := Blk.mt HI.out hm2 (by decide)
    have k0 := hp2.q.cell 0
    have y0 := hp2.q.frozen 0
    simp at k0
    have hnlt := hp2.q.lt
    have hp3 := hp2.store 0 (.string ⟨t.x.toArray⟩)
    simp only [Array.setIfInBounds] at hp3
    have m3 : MT 0 [58] w2 (w2.setCell ⟨w.heap.size, 0, none⟩ (.string ⟨t.x.toArray⟩)) := MT.setCell (MT.refl w2) hp2.q (by simp) (Nat.zero_le _) _
    have hi3 : InB _ w1.heap.size r := Blk.mt hi2 m3 (by decide)
    have hr3 := hr2.mt m3 (by decide) (by decide)
    have hbs := blkNewS w2 ⟨w.heap.size, 0, none⟩ (.string ⟨t.x.toArray⟩) 130 #[.slice none 0 0]
    have hbk : Below (w2.setCell ⟨w.heap.size, 0, none⟩ (.string ⟨t.x.toArray⟩)).heap.size (w2.setCell ⟨w.heap.size, 0, none⟩ (.string ⟨t.x.toArray⟩)) ((w2.setCell ⟨w.heap.size, 0, none⟩ (.string ⟨t.x.toArray⟩)).alloc (.cells #[.slice none 0 0] 130)) := balloc (Below.refl _ _) _
    have hp4 := hp3.keep hbk
    have hi4 : InB _ w1.heap.size r := Blk.alloc hi3 (.cells #[.slice none 0 0] 130)
    have hr4 := hr3.keep hbk
    have x0 := Blk.cell hi4 0
    have x0l := Blk.lt hi4
    simp only [List.getElem?_toArray, List.getElem?_cons_zero] at x0
    have k2 := Blk.cell hi2 0
    have k2l := Blk.lt hi2
    simp only [List.getElem?_toArray, List.getElem?_cons_zero] at k2
    have hne1 : w.heap.size ≠ w1.heap.size := by omega
    have hne2 : w1.heap.size ≠ w.heap.size := by omega
    have hw2 : w.heap.size + 3 ≤ w2.heap.size := hp2.s
    have hcl := cols_any (B := w.heap.size + 3) (bp := w2.heap.size) hi4 ⟨_, hbs, World.ownsRow_nil _ _ _ _⟩ hr4 hrB hp4.s hw2
    have HP4 : Hid (PS w w.heap.size #[.string ⟨t.x.toArray⟩, .slice none 0 0] _) := Lib.hid (by simpa using hp4)
    clear hp2 hi2 hr2 hm2 hp3 m3 hi3 hr3 hbs hbk hp4 hi4 hr4 HP HI HC
    unfold Tok.v
    cases h1 : listP colP c1 with
    | bad a f =>
      have hq := HQ.out
      rw [schT_bad2 H0.out h1] at hq
      subst hq
      rw [h1] at hcl
      have HC := Lib.hid hcl
      clear h1 hcl
      go_wp2_with fail
      refine HC.out.mono ?_
      rintro e wx ⟨rfl, hm⟩
      have HPX := Lib.hid (HP4.out.mt hm)
      clear hm
      go_wp2_with fail
      exact sch_door HPX.out rfl rfl rfl
    | ok l c2 =>
      rw [h1] at hcl
      have HC := Lib.hid hcl
      have H1 := Lib.hid h1
      have hll := list_len col_less h1
      clear h1 hcl
      go_wp2_with fail
      refine HC.out.mono ?_
      rintro e w5 ⟨v5, rfl, ⟨hown, hi5, hpl5, hr5⟩, hm5⟩
      obtain ⟨la, lc, rfl⟩ := own_sl (show World.ownsRow _ _ _ _ _ _ _ from hown)
      have hLL : (l.map clC).length = l.length := by simp
      generalize hLe : (l.map clC).length = L at *
      have HLL := Lib.hid hLL
      have hLb : L ≤ 1000000 := by omega
      clear hLL
      have hp5 := HP4.out.mt hm5
      have k1 := hp5.q.cell 1
      have y1 := hp5.q.frozen 1
      simp only [List.getElem?_toArray, List.getElem?_cons_zero, List.getElem?_cons_succ] at k1
      have hnlt5 := hp5.q.lt
      have k5 := Blk.cell hi5 0
      have k5l := Blk.lt hi5
      simp only [List.getElem?_toArray, List.getElem?_cons_zero] at k5
      have hp6 := hp5.store 1 (.slice la L lc)
      simp only [Array.setIfInBounds] at hp6
      have m6 : MT 0 [58] w5 (w5.setCell ⟨w.heap.size, 1, none⟩ (.slice la L lc)) := MT.setCell (MT.refl w5) hp5.q (by simp) (Nat.zero_le _) _
      have hr6 := hr5.mt m6 (by decide) (by decide)
      have htk := take_rs (B := w.heap.size + 3) (Ts := [165]) hr6 0 [] _ (tx_nil _) hrB (by simp)
      have HPL6 := Lib.hid (hpl5.mt m6 (by decide) (by decide))
      have HO6 := Lib.hid (show World.ownsRow _ _ 78 2 (.slice la L lc) L ((l.map clC).flatMap Col.cells) from by
        have := m6.ownsRow (show World.ownsRow _ _ _ _ _ _ _ from hown) (by decide)
        rw [hLe] at this
        exact this)
      have HP6 : Hid (PS w w.heap.size #[.string ⟨t.x.toArray⟩, .slice la L lc] _) := Lib.hid (by simpa using hp6)
      have hw5 : w.heap.size + 3 ≤ w5.heap.size := hp5.s
      have HW2 := Lib.hid hw2
      have HLe := Lib.hid hLe
      clear hp5 hi5 hr5 hm5 hp6 m6 hr6 hpl5 hown hLe HC HP4 hw2
      cases h2 : tk 0 [] c2 with
      | bad a f =>
        have hq := HQ.out
        rw [schT_bad3 H0.out H1.out h2] at hq
        subst hq
        rw [h2] at htk
        have HC := Lib.hid htk
        clear h2 htk
        go_wp2_with fail
        refine HC.out.mono ?_
        rintro e wx ⟨rfl, hm⟩
        have HPX := Lib.hid (HP6.out.mt hm)
        clear hm
        go_wp2_with fail
        exact sch_door (by simpa using HPX.out) rfl rfl rfl
      | ok u c3 =>
        have hq := HQ.out
        rw [schT_ok H0.out H1.out h2] at hq
        have HQ2 := Lib.hid hq
        rw [h2] at htk
        have HC := Lib.hid htk
        clear h2 htk hq
        go_wp2_with fail
        refine HC.out.mono ?_
        rintro e w7 ⟨v7, rfl, ⟨rfl, hr7⟩, hm7⟩
        have hp7 : PS w w.heap.size #[.string ⟨t.x.toArray⟩, .slice la L lc] w7 := by simpa using HP6.out.mt hm7
        have ho7 := hm7.ownsRow HO6.out (by decide)
        obtain ⟨pv, hpb7, hpo7⟩ := HPL6.out.mt hm7 (by decide) (by decide)
        obtain ⟨pa, pc, rfl⟩ := own_sl (show World.ownsRow _ _ _ _ _ _ _ from hpo7)
        have hpl : (l.map (·.2.2)).length = L := by rw [List.length_map]; exact HLL.out.symm
        have HPL := Lib.hid hpl
        rw [hpl] at hpb7
        clear hpl
        have k1 := hp7.q.cell 1
        have p0 := hpb7.cell 0
        have p0l := hpb7.lt
        simp only [List.getElem?_toArray, List.getElem?_cons_zero, List.getElem?_cons_succ] at k1 p0
        have k1l := hp7.q.lt
        have HP7 := Lib.hid hp7
        have HO7 := Lib.hid ho7
        have HPB7 := Lib.hid hpb7
        have HPO7 := Lib.hid hpo7
        clear hp7 ho7 hpb7 hpo7 hr7 hm7 HC HPL6 HO6 HP6
        unfold Tok.v
        cases h5 : l[5]? with
        | some c =>
          have hq := HQ2.out
          rw [chkS_many h5] at hq
          subst hq
          have h5l := (List.getElem?_eq_some_iff.1 h5).1
          rw [← HLL.out] at h5l
          obtain ⟨pg, pcap, hv, hnc, hcm, hgl, hce⟩ := IntsO.get HPO7.out (i := 5) (p := c.2.2) (by simp [h5])
          simp only [Value.slice.injEq, true_and] at hv
          obtain ⟨rfl, rfl⟩ := hv
          rw [HPL.out] at hnc
          have hd : (5 : Int) < (L : Int) := by omega
          have hd2 : ¬ ((L : Int) ≤ 5) := by omega
          clear h5
          go_wp2_with fail
          exact sch_door HP7.out rfl rfl rfl
        | none =>
          have h5l := List.getElem?_eq_none_iff.1 h5
          rw [← HLL.out] at h5l
          have hd : ¬ ((5 : Int) < (L : Int)) := by omega
          have hd2 : (L : Int) ≤ 5 := by omega
          have hag := again_any w7 (.slice la L lc) (l.map clC) (ColsOwn.at (B := 0) (by
            show World.ownsRow _ _ _ _ _ _ _
            rw [HLe.out]
            exact World.ownsRow.low HO7.out (Nat.zero_le _)) (by rw [HLe.out]; omega))
          have HAG := Lib.hid hag
          have H5 := Lib.hid h5
          clear hag h5
          rcases again_range (l.map clC) [] 0 with h6 | ⟨j, h6, _, h7⟩
          · have hai : againI (l.map clC) = -1 := h6
            have hq := HQ2.out
            rw [chkS_ok H5.out hai] at hq
            subst hq
            have hag := HAG.out
            rw [hai] at hag
            have HA := Lib.hid hag
            clear hag h6 hai HAG
            go_wp2_with fail
            refine HA.out.mono ?_
            rintro e w8 ⟨rfl, hb8⟩
            have hp8 := HP7.out.keep hb8
            have z0 := hp8.q.cell 0
            have z1 := hp8.q.cell 1
            have z3 := hp8.a.cell 0
            have z4 := hp8.e.cell 0
            simp only [List.getElem?_toArray, List.getElem?_cons_zero, List.getElem?_cons_succ] at z0 z1 z3 z4
            have u0 := hp8.q.frozen 0
            have u1 := hp8.q.frozen 1
            have u3 := hp8.a.frozen 0
            have u4 := hp8.e.frozen 0
            have hnl14 := hp8.q.lt
            have hna14 := hp8.a.lt
            have hne14 := hp8.e.lt
            obtain ⟨hfin, mfin⟩ := hp8.fin
            have mall := (MT.ofBelow (B := 0) (Ts := [58, 3, 26]) hb8).trans mfin
            have hpost : SPost w (.ok (rlnOf t.x l) []) (.returned (.tuple #[.agg #[.string ⟨t.x.toArray⟩, .slice la L lc], .int .i64 0, .int .i64 0])) _ :=
              ⟨_, rfl, by
                show World.ownsRow _ _ _ _ _ (l.map clC).length _
                rw [HLe.out]
                exact World.ownsRow.low (mall.ownsRow HO7.out (by decide)) (by have := HW2.out; omega), hfin.b⟩
            have HFIN := Lib.hid hfin
            have HPOST := Lib.hid hpost
            clear hb8 hp8 hfin mfin mall hpost
            go_wp2_with fail
            exact sch_exit HFIN.out rfl rfl rfl rfl rfl HPOST.out
          · have hai : againI (l.map clC) = (j : Int) := h6
            have hjl : j < L := by simp only [Nat.zero_add] at h7; rw [HLe.out] at h7; exact h7
            obtain ⟨c, hc⟩ : ∃ c, l[j]? = some c := ⟨l[j]'(by rw [← HLL.out]; exact hjl), List.getElem?_eq_getElem (by rw [← HLL.out]; exact hjl)⟩
            have hq := HQ2.out
            rw [chkS_again H5.out hai hc] at hq
            subst hq
            have hag := HAG.out
            rw [hai] at hag
            have HA := Lib.hid hag
            have HCC := Lib.hid hc
            have hd4 : decide ((0 : Int) ≤ (j : Int)) = true := by simp
            have hd5 : decide ((j : Int) < 0) = false := by simp
            have hd6 : decide ((L : Int) ≤ (j : Int)) = false := by simp; omega
            clear hag h6 h7 hai hc HAG
            go_wp2_with fail
            refine HA.out.mono ?_
            rintro e w8 ⟨rfl, hb8⟩
            have hpo8 := (MT.ofBelow (B := 0) (Ts := []) hb8).ownsRow (show World.ownsRow _ _ _ _ _ _ _ from HPO7.out) (by simp)
            obtain ⟨pg, pcap, hv, hnc, hcm, hgl, hce⟩ := IntsO.get (show IntsO _ _ _ (l.map (·.2.2)) from hpo8) (i := j) (p := c.2.2) (by simp [HCC.out])
            simp only [Value.slice.injEq, true_and] at hv
            obtain ⟨rfl, rfl⟩ := hv
            have hpb8 := HPB7.out.below hb8 HPB7.out.lt
            have p0 := hpb8.cell 0
            have p0l := hpb8.lt
            simp only [List.getElem?_toArray, List.getElem?_cons_zero] at p0
            rw [HPL.out] at hnc
            have HP8 := Lib.hid (HP7.out.keep hb8)
            clear hb8 hpo8 hpb8
            go_wp2_with fail
            exact sch_door HP8.out rfl rfl rfl
end Go.Proofs.YtbehonaegfpmoaaDoor
