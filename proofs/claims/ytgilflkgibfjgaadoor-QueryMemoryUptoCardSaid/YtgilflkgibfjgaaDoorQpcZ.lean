/- query.Plain, walked whole. -/
import Derived.Test.YtgilflkgibfjgaaDoorQpbZ
import Derived.Deep.RegionLaw
namespace Go.Proofs.YtgilflkgibfjgaaDoor
open Go.RowKit Go.Maps
set_option linter.unusedVariables false

theorem Tryd.infoAtP : (Tryd.prog.info? 33).map (fun i => (i.zero, i.size, i.bytes)) = some (some (.agg #[.string ⟨#[]⟩, .slice none 0 0]), 2, 40) := by kernel_rfl
theorem Tryd.infoStP : (Tryd.prog.info? 9).map (fun i => (i.zero, i.size, i.bytes)) = some (some (.string ⟨#[]⟩), 1, 16) := by kernel_rfl

/-- How the walk of the heads stands. -/
structure HeadF (q : Qry) : Prop where
  step : ∀ (k : Nat) (s : List UInt8), q.head[k]? = some s → vNo (addN ((q.head.take k).foldl addN []) s) s = vNo (seenQ q) s ∧ (q.head.take (k + 1)).foldl addN [] = addN ((q.head.take k).foldl addN []) s
theorem headF (q : Qry) : HeadF q := ⟨fun k s h => by
  have hk := (List.getElem?_eq_some_iff.1 h).1
  have e : oldQ q = q.head.take k ++ s :: (q.head.drop (k + 1) ++ q.atoms.flatMap fun a => varsL a.ts) := by
    unfold oldQ
    conv => lhs; rw [← List.take_append_drop k q.head, List.drop_eq_getElem_cons hk, (List.getElem?_eq_some_iff.1 h).2]
    simp
  refine ⟨name_at e, ?_⟩
  rw [List.take_add_one, h]
  exact fold_snoc _ _⟩
/-- The names ahead of the j-th term of the i-th atom. -/
def preA (q : Qry) (i : Nat) (ts : List Trm) (j : Nat) : List (List UInt8) := q.head ++ ((q.atoms.take i).flatMap fun a => varsL a.ts) ++ varsL (ts.take j)
theorem preA_len (q : Qry) (i : Nat) {a : Atm} (h : q.atoms[i]? = some a) (j : Nat) : (preA q i a.ts j).length ≤ q.head.length + tsum q.atoms := by
  have hv : ∀ ts : List Trm, (varsL ts).length ≤ ts.length := fun ts => by
    unfold varsL
    have := List.length_filter_le (fun x : List UInt8 => decide (x ≠ [])) (ts.map (·.x))
    simpa using this
  have hf : ∀ l : List Atm, (l.flatMap fun a => varsL a.ts).length ≤ tsum l := by
    intro l
    induction l with
    | nil => simp [tsum]
    | cons b l ih =>
      have := hv b.ts
      simp only [List.flatMap_cons, List.length_append, tsum, List.map_cons, List.sum_cons] at ih ⊢
      omega
  have h1 := hf (q.atoms.take i)
  have h2 := hv (a.ts.take j)
  have h3 := tsum_take_succ h
  have h4 : tsum (q.atoms.take (i + 1)) ≤ tsum q.atoms := by
    unfold tsum
    rw [← List.take_append_drop (i + 1) q.atoms, List.map_append, List.sum_append]
    rw [List.take_append_drop]
    omega
  have h5 : (a.ts.take j).length ≤ a.ts.length := List.length_take_le' j a.ts
  unfold preA
  simp only [List.length_append]
  omega
theorem preA_zero (q : Qry) (i : Nat) (ts : List Trm) : preA q i ts 0 = q.head ++ ((q.atoms.take i).flatMap fun a => varsL a.ts) := by simp [preA, varsL]
theorem preA_next {q : Qry} {i : Nat} {a : Atm} (h : q.atoms[i]? = some a) : preA q i a.ts a.ts.length = q.head ++ ((q.atoms.take (i + 1)).flatMap fun a => varsL a.ts) := by
  unfold preA
  rw [List.take_of_length_le (Nat.le_refl _), List.take_add_one, h]
  simp
theorem preA_skip {q : Qry} {i j : Nat} {ts : List Trm} {t : Trm} (h : ts[j]? = some t) (hx : t.x = []) : preA q i ts (j + 1) = preA q i ts j := by
  unfold preA
  rw [List.take_add_one, h]
  simp [varsL_snoc, hx]
theorem preA_step {q : Qry} {i j : Nat} {a : Atm} {t : Trm} (hi : q.atoms[i]? = some a) (h : a.ts[j]? = some t) (hx : t.x ≠ []) :
    vNo (addN ((preA q i a.ts j).foldl addN []) t.x) t.x = vNo (seenQ q) t.x ∧ (preA q i a.ts (j + 1)).foldl addN [] = addN ((preA q i a.ts j).foldl addN []) t.x := by
  have hil := (List.getElem?_eq_some_iff.1 hi).1
  have hjl := (List.getElem?_eq_some_iff.1 h).1
  have e1 : varsL a.ts = varsL (a.ts.take j) ++ t.x :: varsL (a.ts.drop (j + 1)) := by
    conv => lhs; rw [← List.take_append_drop j a.ts, List.drop_eq_getElem_cons hjl, (List.getElem?_eq_some_iff.1 h).2]
    unfold varsL
    simp [hx]
  have e : oldQ q = preA q i a.ts j ++ t.x :: (varsL (a.ts.drop (j + 1)) ++ (q.atoms.drop (i + 1)).flatMap fun a => varsL a.ts) := by
    unfold oldQ preA
    conv => lhs; rw [← List.take_append_drop i q.atoms, List.drop_eq_getElem_cons hil, (List.getElem?_eq_some_iff.1 hi).2]
    simp [e1]
  refine ⟨name_at e, ?_⟩
  have e2 : preA q i a.ts (j + 1) = preA q i a.ts j ++ [t.x] := by
    unfold preA
    rw [List.take_add_one, h]
    simp [varsL_snoc, hx]
  rw [e2]
  exact fold_snoc _ _
set_option maxHeartbeats 1000000 in
set_option maxRecDepth 100000 in
theorem plain_ret {g : Nat} {W : World} {x y z : Value} {T : Array Value} {Post : Ending → World → Prop} (h : Blk W g 25 #[x, y, z]) (h2 : T[2]?.getD undef = .pointer (some ⟨g, 0, none⟩))
    (hP : Post (.returned (.agg #[x, y, z])) W) : bodyPost Tryd.prog Tryd.f16 Post Exit.ret { tmps := T, defers := [] } W := by
  have c0 := h.cell 0
  have c1 := h.cell 1
  have c2 := h.cell 2
  simp only [List.getElem?_toArray, List.getElem?_cons_zero, List.getElem?_cons_succ] at c0 c1 c2
  exact bodyPost_ret (v := .agg #[x, y, z]) (by simp [results, Tryd.results16, go_sem, h2, c0, c1, c2]) rfl hP

set_option maxHeartbeats 16000000 in
set_option maxRecDepth 100000 in
theorem plainq_any (w : World) (name : ByteArray) (hv av : Value) (hd : List (List UInt8)) (al : List Atm) (h1 : StrsAt w hv hd) (h2 : AtomsAt w av al) (hn : al.length ≤ 1048576) (hs : tsum al ≤ 1048576) (hh : hd.length ≤ 1048576)
    (hz1 : ∀ s ∈ hd, s.length ≤ 140737488351232) (hz2 : ∀ a ∈ al, ∀ t ∈ a.ts, t.x.length ≤ 140737488351232) (hg : Glob w) :
    Calls Tryd.prog 16 #[.agg #[.string name, hv, av]] w fun e w' => ∃ hv' av', e = .returned (.agg #[.string name, hv', av']) ∧ OwnS w.heap.size w' hv' (plainQ ⟨name.data.toList, hd, al⟩).head ∧
      AtmsOwn w.heap.size w' av' (plainQ ⟨name.data.toList, hd, al⟩).atoms ∧ Below w.heap.size w w' := by
  have hmm := @run_makeMap Tryd.prog
  have hmf : ∀ (fn : Fn) (first cap : Array Value) (w : World), (Instr.makeFunc fn first cap).run Tryd.prog w = .ok (.func fn first cap) w := fun _ _ _ _ => rfl
  obtain ⟨ia, hia, ha0, ha1, ha2⟩ := info_parts Tryd.infoAtP
  obtain ⟨is, his, hi0, hi1, hi2⟩ := info_parts Tryd.infoStP
  obtain ⟨ha, hc, rfl, hhc, hhm⟩ := h1.form
  obtain ⟨aa, ac, rfl, hac, ham⟩ := h2.form
  obtain ⟨q, hq⟩ : ∃ q : Qry, q = ⟨name.data.toList, hd, al⟩ := ⟨_, rfl⟩
  obtain ⟨S, hS⟩ : ∃ S, S = seenQ q := ⟨_, rfl⟩
  have hph : (plainQ ⟨name.data.toList, hd, al⟩).head = hd.map (vNo S) := by rw [hS, hq]; rfl
  have hpa : (plainQ ⟨name.data.toList, hd, al⟩).atoms = al.map (pAt S) := by rw [hS, hq]; rfl
  rw [hph, hpa]
  have hst := (headF q).step
  have hpl := fun (i : Nat) (a : Atm) (h : q.atoms[i]? = some a) (j : Nat) => preA_len q i h j
  have hp0 := fun (i : Nat) (ts : List Trm) => preA_zero q i ts
  have hpn := fun (i : Nat) (a : Atm) (h : q.atoms[i]? = some a) => preA_next h
  have hps := fun (i j : Nat) (ts : List Trm) (t : Trm) (h : ts[j]? = some t) (hx : t.x = []) => preA_skip (q := q) (i := i) h hx
  have hpt := fun (i j : Nat) (a : Atm) (t : Trm) (hi : q.atoms[i]? = some a) (h : a.ts[j]? = some t) (hx : t.x ≠ []) => preA_step hi h hx
  have hqh : q.head = hd := by rw [hq]
  have hqa : q.atoms = al := by rw [hq]
  rw [← hS] at hst hpt
  rw [hqh] at hst hpl hp0 hpn
  rw [hqa] at hpl hp0 hpn hpt
  have HST := Lib.hid hst
  have HPL := Lib.hid hpl
  have HP0 := Lib.hid hp0
  have HPN := Lib.hid hpn
  have HPS := Lib.hid hps
  have HPT := Lib.hid hpt
  have HH := Lib.hid h1
  have HA := Lib.hid h2
  have HZ1 := Lib.hid hz1
  have HZ2 := Lib.hid hz2
  have HG := Lib.hid hg
  have h6 := hg.many
  have HTS := Lib.hid hs
  clear h1 h2 hz1 hz2 hg hst hpl hp0 hpn hps hpt hqh hqa hph hpa hS hq hs
  generalize hN : hd.length = n at *
  generalize hM : al.length = na at *
  have HN := Lib.hid hN
  have HM := Lib.hid hM
  clear hN hM
  unfold maxLen at hhm ham
  obtain ⟨QC, hQC⟩ : ∃ QC : Array Value, QC = #[.string name, .slice ha n hc, .slice aa na ac] := ⟨_, rfl⟩
  have HQC := Lib.hid hQC
  clear hQC
  go_enter Tryd.func16, Tryd.ntmps16
  go_wp2_with fail
  obtain ⟨W0, hW0⟩ : ∃ W0, (((((w.alloc (.cells #[.string name, .slice ha n hc, .slice aa na ac] 25)).alloc (.cells #[.string ⟨#[]⟩, .slice none 0 0, .slice none 0 0] 25)).alloc (.map #[] 0)).alloc (.cells #[.map (some (w.heap.size + 1 + 1))] 98)).alloc (.cells #[.string name, .slice none 0 0, .slice none 0 0] 25)) = W0 := ⟨_, rfl⟩
  have hp0 : PlM w W0 (w.heap.size + 1 + 1) (w.heap.size + 1 + 1 + 1) (w.heap.size + 1 + 1 + 1 + 1) w.heap.size (w.heap.size + 1) QC name (.slice none 0 0) (.slice none 0 0) [] [] [] := by
    rw [← hW0, HQC.out]
    have q1 := Blk.new w 25 #[.string name, .slice ha n hc, .slice aa na ac]
    have q2 := blkNew1 w (.cells #[.string name, .slice ha n hc, .slice aa na ac] 25) 25 #[.string ⟨#[]⟩, .slice none 0 0, .slice none 0 0]
    have q3 := NumMap.made ((w.alloc (.cells #[.string name, .slice ha n hc, .slice aa na ac] 25)).alloc (.cells #[.string ⟨#[]⟩, .slice none 0 0, .slice none 0 0] 25)) 3 (idxF [])
    have q4 := Blk.new (((w.alloc (.cells #[.string name, .slice ha n hc, .slice aa na ac] 25)).alloc (.cells #[.string ⟨#[]⟩, .slice none 0 0, .slice none 0 0] 25)).alloc (.map #[] 0)) 98 #[.map (some (w.heap.size + 1 + 1))]
    have q5 := Blk.new ((((w.alloc (.cells #[.string name, .slice ha n hc, .slice aa na ac] 25)).alloc (.cells #[.string ⟨#[]⟩, .slice none 0 0, .slice none 0 0] 25)).alloc (.map #[] 0)).alloc (.cells #[.map (some (w.heap.size + 1 + 1))] 98)) 25 #[.string name, .slice none 0 0, .slice none 0 0]
    simp only [World.size_alloc] at q3 q4 q5
    exact ⟨(q3.alloc _).alloc _, q4.alloc _, q5, World.ownsRow_nil _ _ _ _, ⟨[], World.ownsRow_nil _ _ _ _, trivial⟩, balloc (balloc (balloc (balloc (balloc (Below.refl _ _) _) _) _) _) _, (((q1.alloc _).alloc _).alloc _).alloc _, ((q2.alloc _).alloc _).alloc _⟩
  have HPM0 := Lib.hid hp0
  rw [hW0]
  clear hW0 hp0
  go_loopw [20] (fun i wr => ∃ (k : Nat) (hv' : Value), k ≤ n ∧ i = .int .i64 k ∧ Hid (PlM w wr (w.heap.size + 1 + 1) (w.heap.size + 1 + 1 + 1) (w.heap.size + 1 + 1 + 1 + 1) w.heap.size (w.heap.size + 1) QC name hv' (.slice none 0 0) ((hd.take k).foldl addN []) ((hd.take k).map (vNo S)) [])) (fun i _ => n - (intOf i).toNat)
  case atStart => exact ⟨0, _, Nat.zero_le _, rfl, HPM0⟩
  case round =>
    obtain ⟨k, hv', hk, rfl, PM⟩ := hrel
    obtain ⟨wo, rfl⟩ : ∃ wo : World, wo = wr := ⟨_, rfl⟩
    by_cases hlt : k < n
    · obtain ⟨s, hs⟩ : ∃ s, hd[k]? = some s := ⟨hd[k]'(by rw [HN.out]; exact hlt), List.getElem?_eq_getElem (by rw [HN.out]; exact hlt)⟩
      obtain ⟨sb, so, sc, hsv, _, _, hsl, hs0⟩ := (HH.out.keep PM.out.bel).get hs
      rw [HN.out] at hsv
      simp only [Value.slice.injEq, true_and] at hsv
      obtain ⟨rfl, rfl⟩ := hsv
      have hlk : ((hd.take k).map (vNo S)).length = k := by rw [List.length_map, List.length_take, HN.out]; omega
      have hown := PM.out.hd
      unfold OwnS at hown
      rw [hlk] at hown
      obtain ⟨ja, jc, rfl⟩ := own_sl hown
      obtain ⟨hnm, hnx⟩ := HST.out k s hs
      have hfl : ((hd.take k).foldl addN []).length ≤ 1048576 := by
        have := fold_len (hd.take k) []
        rw [List.length_take, HN.out] at this
        simp only [List.length_nil] at this
        omega
      have hsz := HZ1.out s (List.mem_of_getElem? hs)
      have HAN : Hid (∀ W, Below wo.heap.size wo W → Calls Tryd.prog 54 #[.string ⟨s.toArray⟩, .pointer (some ⟨w.heap.size + 1 + 1 + 1, 0, none⟩)] W fun e W' => e = .returned (.string ⟨(vNo S s).toArray⟩) ∧ PlM w W' (w.heap.size + 1 + 1) (w.heap.size + 1 + 1 + 1) (w.heap.size + 1 + 1 + 1 + 1) w.heap.size (w.heap.size + 1) QC name (.slice ja k jc) (.slice none 0 0) ((hd.take (k + 1)).foldl addN []) ((hd.take k).map (vNo S)) []) :=
        Lib.hid fun W hW => (anew_any W _ _ _ s (PM.out.keep hW).nb (PM.out.keep hW).mp (by omega) (by omega) (HG.out.below (PM.out.keep hW).bel) (by omega)).mono fun e W' hh => by
          rw [hnm] at hh
          rw [hnx]
          exact ⟨hh.1, (PM.out.keep hW).step hh.2.1 hh.2.2 (by omega)⟩
      have HLK := Lib.hid hlk
      have x0 := PM.out.ob.cell 1
      have xl := PM.out.ob.lt
      simp only [List.getElem?_toArray, List.getElem?_cons_zero, List.getElem?_cons_succ] at x0
      have HTK : Hid ((hd.take (k + 1)).map (vNo S) = (hd.take k).map (vNo S) ++ [vNo S s]) := Lib.hid (by rw [List.take_add_one, hs]; simp)
      have hbo : Below wo.heap.size wo wo := Below.refl _ _
      clear hs hown hlk hnm hnx hfl hsz
      generalize vNo S s = T at *
      go_wp2_with fail
      go_region_law (first
        | (go_simp; go_at_call 54; refine (HAN.out _ (bdrew (Below.refl _ _))).mono ?_; rintro e w6 ⟨rfl, p6⟩; have x06 := p6.ob.cell 1; have f06 := p6.ob.frozen 1; have xl6 := p6.ob.lt; simp only [List.getElem?_toArray, List.getElem?_cons_zero, List.getElem?_cons_succ] at x06; have h6 := p6.hd; unfold OwnS at h6; rw [HLK.out] at h6; have hz6 := p6.bel.size; have HP6 := Lib.hid p6; have HO6 := Lib.hid h6; clear p6 h6)
        | (refine step_append_lies _ rfl (.tmp 25) (.tmp 29) 22 rfl w.heap.size 9 is (.string ⟨#[]⟩) 1 16 Tryd.underlying22 his hi0 hi1 hi2 rfl (by decide) (.slice ja k jc) k _ rfl (HO6.out.alloc _) ⟨_, 0, none⟩ 1 1 [.string ⟨T.toArray⟩] rfl rfl (World.news_of_block (Blk.new _ _ _)) (by simp [Value.oneCell']) (by decide) (by unfold maxLen; omega) (by omega) (by simp; omega) _ rfl ?_; intro g3 cap3 wi hown3 hgrow3 hat3 hlt3; have yi := (HP6.out.ob.alloc (.cells #[.string ⟨T.toArray⟩] 9)).grown hgrow3 (fun e => own_blk_ne HO6.out HP6.out.ob (by decide) (Eq.symm e)); have z2 := yi.cell 1; have zf := yi.frozen 1; have zl := yi.lt; simp only [List.getElem?_toArray, List.getElem?_cons_zero, List.getElem?_cons_succ] at z2; clear yi))
      all_goals
        have hadd := HP6.out.addHead (s := T) (v' := .slice (some ⟨g3, 0, none⟩) (k + 1) cap3) (by omega) (by omega) (by omega) hgrow3 (by rw [HLK.out]; exact hown3)
        rw [← HTK.out] at hadd
        have HADD := Lib.hid hadd
        clear hadd hown3 hgrow3 hat3 hlt3 z2 zf
        go_wp2_with fail
        go_roundw
        case rel => exact ⟨k + 1, _, by omega, by go_num, HADD⟩
        case measure => simp [intOf]; omega
    · obtain rfl : k = n := by omega
      have hpm := PM.out
      rw [List.take_of_length_le (by rw [HN.out]; exact Nat.le_refl _)] at hpm
      have HPM1 := Lib.hid hpm
      have yb := HPM1.out.qb
      rw [HQC.out] at yb
      have y2 := yb.cell 2
      have yl := yb.lt
      simp only [List.getElem?_toArray, List.getElem?_cons_zero, List.getElem?_cons_succ] at y2
      clear hpm PM HPM0 yb
      go_wp2_with fail
      have hp2 : PlM w wo (w.heap.size + 1 + 1) (w.heap.size + 1 + 1 + 1) (w.heap.size + 1 + 1 + 1 + 1) w.heap.size (w.heap.size + 1) QC name hv' (.slice none 0 0) ((hd ++ (al.take 0).flatMap fun a => varsL a.ts).foldl addN []) (hd.map (vNo S)) ((al.take 0).map (pAt S)) := by simpa using HPM1.out
      have HP2 := Lib.hid hp2
      clear hp2 HPM1 y2 yl
      go_loopw [36] (fun i wr => ∃ (k : Nat) (av' : Value), k ≤ na ∧ i = .int .i64 k ∧ Hid (PlM w wr (w.heap.size + 1 + 1) (w.heap.size + 1 + 1 + 1) (w.heap.size + 1 + 1 + 1 + 1) w.heap.size (w.heap.size + 1) QC name hv' av' ((hd ++ (al.take k).flatMap fun a => varsL a.ts).foldl addN []) (hd.map (vNo S)) ((al.take k).map (pAt S)))) (fun i _ => na - (intOf i).toNat)
      case atStart => exact ⟨0, _, Nat.zero_le _, rfl, HP2⟩
      case round =>
        obtain ⟨k, av', hk, rfl, PM⟩ := hrel
        obtain ⟨wq, rfl⟩ : ∃ wq : World, wq = wr := ⟨_, rfl⟩
        by_cases hlt : k < na
        · obtain ⟨a, ha⟩ : ∃ a, al[k]? = some a := ⟨al[k]'(by rw [HM.out]; exact hlt), List.getElem?_eq_getElem (by rw [HM.out]; exact hlt)⟩
          obtain ⟨ab, ao, acp, tv, hav, _, _, hal, a0, a1, hts, htl⟩ := (HA.out.keep PM.out.bel).get ha
          rw [HM.out] at hav
          simp only [Value.slice.injEq, true_and] at hav
          obtain ⟨rfl, rfl⟩ := hav
          obtain ⟨tva, tvc, rfl, _, htm⟩ := hts.form
          rw [List.length_map] at *
          have HCL := Lib.hid (fun W (hb : Below wq.heap.size wq W) => clone_Trm W _ (a.ts.map Trm.cells) (hts.keep hb) (trm_len _) (trm_one _) (by rw [List.length_map]; omega))
          have hpm1 := PM.out.keep (balloc (Below.refl wq.heap.size wq) (.cells #[.string ⟨a.rel.toArray⟩, .slice tva a.ts.length tvc] 33))
          have hbx := Blk.new wq 33 #[.string ⟨a.rel.toArray⟩, .slice tva a.ts.length tvc]
          have x1 := hbx.cell 1
          have xl := hbx.lt
          simp only [List.getElem?_toArray, List.getElem?_cons_zero, List.getElem?_cons_succ] at x1
          have hb1 := balloc (Below.refl wq.heap.size wq) (.cells #[.string ⟨a.rel.toArray⟩, .slice tva a.ts.length tvc] 33)
          obtain ⟨W1, hW1⟩ : ∃ W1, wq.alloc (.cells #[.string ⟨a.rel.toArray⟩, .slice tva a.ts.length tvc] 33) = W1 := ⟨_, rfl⟩
          rw [hW1] at hpm1 hbx hb1 xl x1
          have HW1 := Lib.hid hW1
          have HPM1 := Lib.hid hpm1
          have HBX := Lib.hid hbx
          have HB1 := Lib.hid hb1
          have HAK := Lib.hid ha
          have hz1' := hpm1.bel.size
          clear hpm1 hbx hb1 hW1 ha hts
          go_wp2_with fail
          rw [HW1.out]
          refine (HCL.out _ HB1.out).mono ?_
          rintro e w2 ⟨v2, rfl, hown2, hb2⟩
          rw [List.length_map] at hown2
          obtain ⟨ta, tc, rfl⟩ := own_sl hown2
          generalize hTN : a.ts.length = tn at *
          have HTN := Lib.hid hTN
          clear hTN
          have hmp2 := HPM1.out.mp.below hb2 HPM1.out.mp.lt
          have hpa0 := HP0.out k a.ts
          rw [← hpa0] at hmp2
          have HMP2 := Lib.hid hmp2
          have HMD2 : Hid (Mod (fun q => q = w.heap.size + 1 + 1) W1 w2) := Lib.hid (Mod.ofBelow hb2)
          have HOW2 : Hid (w2.ownsRow W1.heap.size 47 4 (.slice ta tn tc) tn ((midT S a.ts 0).map Trm.cells).flatten) := Lib.hid (by rw [midT_zero]; exact hown2)
          clear hmp2 hpa0 hown2 hb2 HCL
          go_wp2_with fail
          go_loopw [45] (fun c wr => ∃ j : Nat, j ≤ tn ∧ c = .int .i64 j ∧ Hid (NumMap wr 3 (w.heap.size + 1 + 1) ((preA q k a.ts j).foldl addN []) (idxF ((preA q k a.ts j).foldl addN []))) ∧ Hid (Mod (fun q => q = w.heap.size + 1 + 1) W1 wr) ∧
            Hid (wr.ownsRow W1.heap.size 47 4 (.slice ta tn tc) tn ((midT S a.ts j).map Trm.cells).flatten)) (fun c _ => tn - (intOf c).toNat)
          case atStart => exact ⟨0, Nat.zero_le _, rfl, HMP2, HMD2, HOW2⟩
          case round =>
            obtain ⟨j, hj, rfl, MP, MD, OW⟩ := hrel
            obtain ⟨wt, rfl⟩ : ∃ wt : World, wt = wr := ⟨_, rfl⟩
            by_cases hjl : j < tn
            · obtain ⟨t, ht⟩ : ∃ t, a.ts[j]? = some t := ⟨a.ts[j]'(by rw [HTN.out]; exact hjl), List.getElem?_eq_getElem (by rw [HTN.out]; exact hjl)⟩
              have how := OW.out
              obtain ⟨g, cap, hgv, hgb, hgl⟩ := how.form (by omega)
              simp only [Value.slice.injEq, true_and] at hgv
              obtain ⟨rfl, rfl⟩ := hgv
              have hrj : ((midT S a.ts j).map Trm.cells)[j]? = some t.cells := by rw [List.getElem?_map, midT_get ht]; rfl
              have y0 := (how.cellAt (j * 4) (by omega)).trans (by simpa using flatten_at (trm_len _) hrj (j := 0) rfl)
              have f0 := how.frozenAt (j * 4)
              have hdk : decide ((j : Int) < 0) = false := by simp
              have hdn : decide ((tn : Int) ≤ (j : Int)) = false := by simp; omega
              have HT := Lib.hid ht
              have HRJ := Lib.hid hrj
              clear how ht hrj
              by_cases hx : t.x = []
              · rw [hx] at y0
                have HX := Lib.hid hx
                clear hx
                go_wp2_with fail
                go_roundw
                case rel => exact ⟨j + 1, by omega, by go_num, by rw [HPS.out k j a.ts t HT.out HX.out]; exact MP, MD, by rw [midT_same HT.out HX.out]; exact OW⟩
                case measure => simp [intOf]; omega
              · have he := ba_empty hx
                have he2 : t.x.isEmpty = false := by
                  cases hxx : t.x with
                  | nil => exact absurd hxx hx
                  | cons _ _ => rfl
                have he3 : (!t.x.isEmpty) = true := by rw [he2]; rfl
                have hpm := HPM1.out.step MP.out MD.out (by omega)
                obtain ⟨hnm, hnx⟩ := HPT.out k j a t HAK.out HT.out hx
                have hplen : ((preA q k a.ts j).foldl addN []).length ≤ 2097152 := by
                  have h1 := fold_len (preA q k a.ts j) []
                  have h2 := HPL.out k a HAK.out j
                  have h3 := HTS.out
                  simp only [List.length_nil] at h1
                  omega
                have hzt := HZ2.out a (List.mem_of_getElem? HAK.out) t (List.mem_of_getElem? HT.out)
                have han := anew_any wt _ _ _ t.x hpm.nb MP.out (by omega) (by omega) (HG.out.below hpm.bel) (by omega)
                rw [hnm] at han
                have HAN := Lib.hid han
                have hpt : pTm S t = ⟨vNo S t.x, t.k, t.n, t.t⟩ := if_neg hx
                have HPTM := Lib.hid hpt
                have HNX := Lib.hid hnx
                have HPW := Lib.hid hpm
                clear hx hpm hnm hnx hplen hzt han hpt
                obtain ⟨T, hT⟩ : ∃ T, vNo S t.x = T := ⟨_, rfl⟩
                rw [hT] at HAN HPTM
                clear hT
                go_wp2_with fail
                refine HAN.out.mono ?_
                rintro e w6 ⟨rfl, hmp6, hmd6⟩
                have how6 := hmd6.ownsRow OW.out (MP.out.ne_own OW.out)
                have y06 := (how6.cellAt (j * 4) (by omega)).trans (by simpa using flatten_at (trm_len _) HRJ.out (j := 0) rfl)
                have f06 := how6.frozenAt (j * 4)
                have hmd : Mod (fun q => q = w.heap.size + 1 + 1) W1 w6 := MD.out.trans hmd6 (fun i _ e => e)
                have hst := (how6.stored (j * 4) (.string ⟨T.toArray⟩)).1
                rw [flat_setP (by decide) _ j _ _ (trm_len _) HRJ.out] at hst
                have hrow : ((midT S a.ts j).map Trm.cells).set j (t.cells.set 0 (.string ⟨T.toArray⟩)) = (midT S a.ts (j + 1)).map Trm.cells := by
                  rw [midT_step HT.out, HPTM.out, List.map_set]
                  rfl
                rw [hrow] at hst
                have hgne : g ≠ w.heap.size + 1 + 1 := MP.out.ne_own OW.out g rfl
                rw [← HNX.out] at hmp6
                have HMP6 := Lib.hid (hmp6.setCell (p := ⟨g, j * 4, none⟩) (by simp only; exact hgne) (.string ⟨T.toArray⟩))
                have HMD6 := Lib.hid (hmd.setCell (p := ⟨g, j * 4, none⟩) (fun h => by simp only at h; omega) (.string ⟨T.toArray⟩))
                have HST6 := Lib.hid hst
                have hgl6 : g < w6.heap.size := Nat.lt_of_lt_of_le hgl hmd6.size
                clear hmp6 hmd6 how6 hmd hst hrow y0 f0
                go_wp2_with fail
                go_roundw
                case rel => exact ⟨j + 1, by omega, by go_num, HMP6, HMD6, HST6⟩
                case measure => simp [intOf]; omega
            · obtain rfl : j = tn := by omega
              have hmp := MP.out
              have hpn := HPN.out k a HAK.out
              rw [HTN.out] at hpn
              rw [hpn] at hmp
              have hpm := HPM1.out.step hmp MD.out (by omega)
              have hlk : ((al.take k).map (pAt S)).length = k := by rw [List.length_map, List.length_take, HM.out]; omega
              obtain ⟨rows, hrows, hall⟩ := hpm.am
              rw [hlk] at hrows
              obtain ⟨ja, jc, rfl⟩ := own_sl hrows
              have hma : midT S a.ts j = a.ts.map (pTm S) := by rw [← HTN.out]; exact midT_all S a.ts
              have how := OW.out
              rw [hma, map_flat] at how
              have hT : wt.ownsRow w.heap.size 47 4 (.slice ta (pAt S a).ts.length tc) (pAt S a).ts.length ((pAt S a).ts.flatMap Trm.cells) := by
                show wt.ownsRow w.heap.size 47 4 (.slice ta (a.ts.map (pTm S)).length tc) (a.ts.map (pTm S)).length ((a.ts.map (pTm S)).flatMap Trm.cells)
                rw [List.length_map, HTN.out]
                exact World.ownsRow.low how hz1'
              have hTL : (pAt S a).ts.length = j := by show (a.ts.map (pTm S)).length = j; rw [List.length_map, HTN.out]
              have hbx := HBX.out.mod MD.out (HPM1.out.mp.ne_blk HBX.out)
              have x0' := hbx.cell 0
              have xl' := hbx.lt
              have y2 := hpm.ob.cell 2
              have yf := hpm.ob.frozen 2
              have yl := hpm.ob.lt
              simp only [List.getElem?_toArray, List.getElem?_cons_zero, List.getElem?_cons_succ] at x0' y2
              have hzt := hpm.bel.size
              have HPMT := Lib.hid hpm
              have HROWS := Lib.hid hrows
              have HALL := Lib.hid hall
              have HTT := Lib.hid hT
              have HTL := Lib.hid hTL
              have HLK := Lib.hid hlk
              have HTK : Hid ((al.take (k + 1)).map (pAt S) = (al.take k).map (pAt S) ++ [pAt S a]) := Lib.hid (by rw [List.take_add_one, HAK.out]; simp)
              clear hmp hpn hpm hrows hall hma how hT hTL hbx hlk
              go_wp2_with (at_builtin; refine wpList_append_lies _ rfl (.tmp 67) (.tmp 72) 23 rfl w.heap.size 33 ia (.agg #[.string ⟨#[]⟩, .slice none 0 0]) 2 40 Tryd.underlying23 hia ha0 ha1 ha2 rfl (by decide) (.slice ja k jc) k _ rfl (HROWS.out.alloc _) ⟨_, 0, none⟩ 1 1 [.string ⟨a.rel.toArray⟩, .slice ta j tc] rfl rfl (World.news_of_block (Blk.new _ _ _)) (by simp [Value.oneCell']) (by decide) ?c3 ?c5 ?c4 _ rfl ?_)
              case c3 => unfold maxLen; omega
              case c5 => omega
              case c4 => simp; omega
              intro g3 cap3 w8 hown8 hgrow8 hat8 hlt8
              have yi := (HPMT.out.ob.alloc (.cells #[.string ⟨a.rel.toArray⟩, .slice ta j tc] 33)).grown hgrow8 (fun e => own_blk_ne HROWS.out HPMT.out.ob (by decide) (Eq.symm e))
              have z2 := yi.cell 2
              have zf := yi.frozen 2
              have zl := yi.lt
              simp only [List.getElem?_toArray, List.getElem?_cons_zero, List.getElem?_cons_succ] at z2
              have hadd := HPMT.out.addAtom (a := pAt S a) (ta := ta) (tc := tc) (n := k) (v' := .slice (some ⟨g3, 0, none⟩) (k + 1) cap3) (rows := rows) (by omega) (by omega) (by omega) HLK.out HTT.out HROWS.out HALL.out (by rw [HTL.out]; exact hgrow8) (by rw [HTL.out]; exact hown8)
              rw [← HTK.out] at hadd
              have HADD := Lib.hid hadd
              clear hadd hown8 hgrow8 hat8 hlt8 yi y2 yf
              go_wp2_with fail
              go_roundw
              case rel => exact ⟨k + 1, _, by omega, by go_num, HADD⟩
              case measure => simp [intOf]; omega
        · obtain rfl : k = na := by omega
          have hpm := PM.out
          rw [List.take_of_length_le (by rw [HM.out]; exact Nat.le_refl _)] at hpm
          obtain ⟨ua, uc, rfl⟩ := own_sl (show World.ownsRow _ _ _ _ _ _ _ from hpm.hd)
          obtain ⟨rows, hrows, _⟩ := hpm.am
          obtain ⟨za, zc, rfl⟩ := own_sl hrows
          have y0 := hpm.ob.cell 0
          have y1 := hpm.ob.cell 1
          have y2 := hpm.ob.cell 2
          have yl := hpm.ob.lt
          simp only [List.getElem?_toArray, List.getElem?_cons_zero, List.getElem?_cons_succ] at y0 y1 y2
          have HPM1 := Lib.hid hpm
          clear hpm hrows
          generalize ((hd.map (vNo S)).length) = l1 at *
          generalize ((al.map (pAt S)).length) = l2 at *
          go_wp2_with (refine wpList_store_blk rfl 25 _ _ rfl (w.heap.size + 1) 25 _ _ rfl rfl HPM1.out.rb (by kernel_rfl) rfl (by simp [Value.oneCell']) ?_)
          intro w6 hb6 hm6 hz6
          have m6 : MT w.heap.size [25] wq w6 := MT.ofMod hm6 HPM1.out.rb (by simp) (by omega)
          have HB6 := Lib.hid hb6
          have HO6 := Lib.hid (m6.ownsRow (show World.ownsRow _ _ _ _ _ _ _ from HPM1.out.hd) (by decide))
          have HA6 := Lib.hid (HPM1.out.am.mt m6 (by decide) (by decide))
          have HBL6 := Lib.hid (HPM1.out.bel.trans (m6.below HPM1.out.bel.size))
          clear hb6 hm6 hz6 m6 y0 y1 y2
          go_wp2_with (exact plain_ret HB6.out rfl ⟨_, _, rfl, HO6.out, HA6.out, HBL6.out⟩)
end Go.Proofs.YtgilflkgibfjgaaDoor
