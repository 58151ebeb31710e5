/- osierref09.Match, walked. -/
import Derived.Test.YtgilflkgibfjgaaDoorGr
import Derived.Test.YtgilflkgibfjgaaDoorGg
namespace Go.Proofs.YtgilflkgibfjgaaDoor
open Go.RowKit
set_option linter.unusedVariables false

/-- The place before. -/
def prevI : Nat → Int
  | 0 => -1
  | k + 1 => k
theorem prevI_eq (k : Nat) : (k : Int) - 1 = prevI k := by
  cases k with
  | zero => rfl
  | succ k => simp only [prevI]; omega
theorem matchPost_some {w w' : World} {l : List Vl} {n : Nat} {v : Value} (ho : w'.ownsRow w.heap.size 45 3 v n (l.map Vl.cells).flatten) (hn : n = l.length) (hb : Below w.heap.size w w') : MatchPost w (some l) (.returned (.tuple #[v, .bool true])) w' := by
  refine ⟨v, rfl, ?_, hb⟩
  subst hn
  rw [← map_flatV]
  exact ho
theorem zeros_map (V : List (List UInt8)) : List.replicate V.length zV.cells = (V.map fun _ => zV).map Vl.cells := by
  induction V with
  | nil => rfl
  | cons a V ih => simp [List.replicate_succ, ih]
theorem fillV_step {V : List (List UInt8)} {z : List (Trm × Vl)} {l : List Vl} {k : Nat} {p : Trm × Vl} (h : z[k]? = some p) : fillV V (z.drop k) l = if p.1.x = [] then fillV V (z.drop (k + 1)) l else (fillV V (z.drop (k + 1)) l).set (V.idxOf p.1.x) p.2 := by
  rw [List.drop_eq_getElem_cons (List.getElem?_eq_some_iff.1 h).1, (List.getElem?_eq_some_iff.1 h).2]
  rfl

set_option maxHeartbeats 16000000 in
set_option maxRecDepth 100000 in
theorem refMatch_any (w : World) (rel : ByteArray) (tv rv : Value) (ts : List Trm) (vs : List Vl) (h : RowAt w tv 4 (ts.map Trm.cells)) (hr : RowAt w rv 3 (vs.map Vl.cells)) (hn : ts.length ≤ 2932031007317) (hv : vs.length ≤ 4398046511104) :
    Calls Tryd.prog 23 #[.agg #[.string rel, tv], rv] w (MatchPost w (matchR ts vs)) := by
  obtain ⟨i0, hi0, hz0, hz1, hz2⟩ := info_parts Tryd.infoVal
  have hneq : ∀ (k n k' n' : Int) (t t' : List UInt8) (w : World), (binOp .neq 45 (.agg #[.int .i64 k, .int .i64 n, .string ⟨t.toArray⟩]) (.agg #[.int .i64 k', .int .i64 n', .string ⟨t'.toArray⟩])).run Tryd.prog w = .ok (.bool (!vlB k n t k' n' t')) w := fun k n k' n' t t' w => neq_value ⟨k, n, t⟩ ⟨k', n', t'⟩ w
  obtain ⟨ad, cap, rfl, hnc, hcm⟩ := h.form
  obtain ⟨rd, rcap, rfl, hrc, hrm⟩ := hr.form
  simp only [List.length_map] at hnc hrc ⊢
  unfold maxLen at hcm hrm
  have hb0 : Below w.heap.size w (w.alloc (.cells #[.string rel, .slice ad ts.length cap] 33)) := balloc (Below.refl _ _) _
  have bx := Blk.new w 33 #[.string rel, .slice ad ts.length cap]
  by_cases hl : vs.length = ts.length
  · have hno : ∀ i, i < ts.length → ¬ okI (ts.zip vs) i → matchR ts vs = none := fun i hi hk => matchR_no hl (fun h => hk ((okP_iff _).1 h i (by rw [List.length_zip]; omega)))
    have hyes : (∀ i, i < ts.length → okI (ts.zip vs) i) → matchR ts vs = some (valsP (atomVars ts) (ts.zip vs)) := fun hk => matchR_ok hl ((okP_iff _).2 (fun i hi => hk i (by rw [List.length_zip] at hi; omega)))
    have hzip : ∀ i t u, ts[i]? = some t → vs[i]? = some u → (ts.zip vs)[i]? = some (t, u) := fun i t u h1 h2 => by rw [List.getElem?_zip_eq_some]; exact ⟨h1, h2⟩
    have hzl : (ts.zip vs).length = ts.length := by rw [List.length_zip]; omega
    have hfill := fill_eq (atomVars ts) (nodup_atomVars ts) (empty_atomVars ts) (ts.zip vs)
    have hmem : ∀ t ∈ ts, t.x ≠ [] → t.x ∈ atomVars ts := fun t ht hx => (mem_atomVars ts _).2 ⟨hx, t, ht, rfl⟩
    have hvl := atomVars_len ts
    generalize hZ : ts.zip vs = Z at *
    generalize matchR ts vs = RES at *
    have HNO := Lib.hid hno
    have HYES := Lib.hid hyes
    have HZIP := Lib.hid hzip
    have HZL := Lib.hid hzl
    have HFILL := Lib.hid hfill
    have HMEM := Lib.hid hmem
    have HAV := fun W (hh : RowAt W (.slice ad ts.length cap) 4 (ts.map Trm.cells)) => refAtomVars_any W rel (.slice ad ts.length cap) ts hh hn
    have HR : Hid (RowAt w (.slice ad ts.length cap) 4 (ts.map Trm.cells)) := Lib.hid (by simpa using h)
    have HRR : Hid (RowAt w (.slice rd vs.length rcap) 3 (vs.map Vl.cells)) := Lib.hid (by simpa using hr)
    have HB0 := Lib.hid hb0
    have BX := Lib.hid bx
    generalize hV : atomVars ts = V at *
    generalize hN : ts.length = n at *
    generalize hM : vs.length = n1 at *
    subst hl
    have HN := Lib.hid hN
    have HL := Lib.hid hM
    have HAVH := Lib.hid HAV
    clear hno hyes hzip hzl hfill hmem h hr hb0 bx hN hM hZ hV HAV
    go_enter Tryd.func23, Tryd.ntmps23
    go_wp2_with fail
    go_loopw [6] (fun i wr => ∃ k : Nat, k ≤ n1 ∧ i = .int .i64 k ∧ Hid (∀ i, i < k → okI Z i) ∧ Hid (Blk wr w.heap.size 33 #[.string rel, .slice ad n1 cap]) ∧ Hid (Below w.heap.size w wr)) (fun i _ => n1 - (intOf i).toNat)
    case atStart => exact ⟨0, Nat.zero_le _, rfl, Lib.hid (fun j hj => by omega), BX, HB0⟩
    case round =>
      obtain ⟨k, hk, rfl, HOK, XB, BW⟩ := hrel
      obtain ⟨wo, rfl⟩ : ∃ wo : World, wo = wr := ⟨_, rfl⟩
      have a0 := XB.out.cell 0
      have a1 := XB.out.cell 1
      simp only [List.getElem?_toArray, List.getElem?_cons_zero, List.getElem?_cons_succ] at a0 a1
      have hal := XB.out.lt
      by_cases hlt : k < n1
      · obtain ⟨t, ht⟩ : ∃ t, ts[k]? = some t := ⟨ts[k]'(by rw [HN.out]; exact hlt), List.getElem?_eq_getElem (by rw [HN.out]; exact hlt)⟩
        obtain ⟨u, hu⟩ : ∃ u, vs[k]? = some u := ⟨vs[k]'(by rw [HL.out]; exact hlt), List.getElem?_eq_getElem (by rw [HL.out]; exact hlt)⟩
        obtain ⟨tb, to, tcap, htv, _, _, htbl, htc⟩ := (HR.out.keep BW.out).get (i := k) (x := t.cells) (by simp [ht])
        simp only [List.length_map, HN.out, Value.slice.injEq, true_and] at htv
        obtain ⟨rfl, rfl⟩ := htv
        obtain ⟨rb, ro, rcap', hrv, _, _, hrbl, hrc'⟩ := (HRR.out.keep BW.out).get (i := k) (x := u.cells) (by simp [hu])
        simp only [List.length_map, HL.out, Value.slice.injEq, true_and] at hrv
        obtain ⟨rfl, rfl⟩ := hrv
        have HZK := Lib.hid (HZIP.out k t u ht hu)
        have t0 := htc 0 _ rfl
        have t1 := htc 1 _ rfl
        have t2 := htc 2 _ rfl
        have t3 := htc 3 _ rfl
        have r0 := hrc' 0 _ rfl
        have r1 := hrc' 1 _ rfl
        have r2 := hrc' 2 _ rfl
        simp only [Nat.add_zero] at t0 r0
        have hdk : decide ((k : Int) < 0) = false := by simp
        have hdn : decide ((n1 : Int) ≤ (k : Int)) = false := by simp; omega
        clear htc hrc'
        have HT := Lib.hid ht
        have HU := Lib.hid hu
        by_cases hx : t.x = []
        · rw [hx] at t0
          by_cases hq : t.vl = u
          · have hvb : vlB t.k t.n t.t u.k u.n u.t = true := decide_eq_true hq
            have hok : ∀ i, i < k + 1 → okI Z i := by
              intro i hi
              rcases Nat.lt_or_eq_of_le (Nat.le_of_lt_succ hi) with h | rfl
              · exact HOK.out i h
              · intro p hp
                rw [HZK.out] at hp
                simp only [Option.some.injEq] at hp
                subst hp
                exact ⟨fun _ => hq, fun j q _ _ hne => absurd hx hne⟩
            have HOK2 := Lib.hid hok
            have HXE := Lib.hid hx
            clear hq hok ht hu hx HNO
            go_wp2_with fail
            go_quiet (fail)
            go_wp2_with fail
            go_loopw [7] (fun j wr => ∃ m : Nat, m ≤ k ∧ j = .int .i64 m ∧ Hid (Blk wr w.heap.size 33 #[.string rel, .slice (some ⟨tb, to, none⟩) n1 cap]) ∧ Hid (Below w.heap.size w wr)) (fun j _ => k - (intOf j).toNat)
            case atStart => exact ⟨0, Nat.zero_le _, rfl, Lib.hid (XB.out.drewN _), Lib.hid (bdrewN BW.out _)⟩
            case round =>
              obtain ⟨m, hm, rfl, XB2, BW2⟩ := hrel
              by_cases hmk : m < k
              · obtain ⟨htb2, htc2⟩ := HR.out.upon (i := k) (x := t.cells) (by simp [HT.out]) BW2.out
                have s0 := htc2 0 _ rfl
                have b0 := XB2.out.cell 0
                have b1 := XB2.out.cell 1
                simp only [List.getElem?_toArray, List.getElem?_cons_zero, List.getElem?_cons_succ] at b0 b1
                have hbl := XB2.out.lt
                simp only [Nat.add_zero] at s0
                rw [HXE.out] at s0
                clear htc2
                go_wp2_with fail
                go_quiet (fail)
                go_wp2_with fail
                go_roundw
                case rel => exact ⟨m + 1, by omega, by go_num, Lib.hid (XB2.out.drewN _), Lib.hid (bdrewN BW2.out _)⟩
                case measure => simp [intOf]; omega
              · obtain rfl : m = k := by omega
                go_wp2_with fail
                go_roundw
                case rel => exact ⟨m + 1, by omega, by go_num, HOK2, XB2, BW2⟩
                case measure => simp [intOf]; omega
          · have hvb : vlB t.k t.n t.t u.k u.n u.t = false := decide_eq_false hq
            have hres : RES = none := HNO.out k hlt (fun hk => hq ((hk _ HZK.out).1 hx))
            subst hres
            clear hq hx ht hu
            go_wp2_with fail
            go_quiet (fail)
            go_wp2_with fail
            go_ret2
            exact matchPost_none (bdrewN BW.out _)
        · have he2 : t.x.isEmpty = false := by
            cases hxx : t.x with
            | nil => exact absurd hxx hx
            | cons _ _ => rfl
          have he3 : (!t.x.isEmpty) = true := by rw [he2]; rfl
          have hx0 := ba_empty hx
          have HXN := Lib.hid hx
          clear hx ht hu
          go_wp2_with fail
          go_quiet (fail)
          go_wp2_with fail
          go_loopw [7] (fun j wr => ∃ m : Nat, m ≤ k ∧ j = .int .i64 m ∧ Hid (∀ (j : Nat) (q : Trm × Vl), j < m → Z[j]? = some q → t.x = q.1.x → u = q.2) ∧ Hid (Blk wr w.heap.size 33 #[.string rel, .slice (some ⟨tb, to, none⟩) n1 cap]) ∧ Hid (Below w.heap.size w wr)) (fun j _ => k - (intOf j).toNat)
          case atStart => exact ⟨0, Nat.zero_le _, rfl, Lib.hid (fun j q hj => by omega), Lib.hid (XB.out.drewN _), Lib.hid (bdrewN BW.out _)⟩
          case round =>
            obtain ⟨m, hm, rfl, HSO, XB2, BW2⟩ := hrel
            by_cases hmk : m < k
            · obtain ⟨t', ht'⟩ : ∃ t, ts[m]? = some t := ⟨ts[m]'(by rw [HN.out]; omega), List.getElem?_eq_getElem (by rw [HN.out]; omega)⟩
              obtain ⟨u', hu'⟩ : ∃ u, vs[m]? = some u := ⟨vs[m]'(by rw [HL.out]; omega), List.getElem?_eq_getElem (by rw [HL.out]; omega)⟩
              obtain ⟨htb2, htc2⟩ := HR.out.upon (i := k) (x := t.cells) (by simp [HT.out]) BW2.out
              obtain ⟨htb3, htc3⟩ := HR.out.upon (i := m) (x := t'.cells) (by simp [ht']) BW2.out
              obtain ⟨hrb2, hrc2⟩ := HRR.out.upon (i := k) (x := u.cells) (by simp [HU.out]) BW2.out
              obtain ⟨hrb3, hrc3⟩ := HRR.out.upon (i := m) (x := u'.cells) (by simp [hu']) BW2.out
              have s0 := htc2 0 _ rfl
              have q0 := htc3 0 _ rfl
              have v0 := hrc2 0 _ rfl
              have v1 := hrc2 1 _ rfl
              have v2 := hrc2 2 _ rfl
              have y0 := hrc3 0 _ rfl
              have y1 := hrc3 1 _ rfl
              have y2 := hrc3 2 _ rfl
              have b0 := XB2.out.cell 0
              have b1 := XB2.out.cell 1
              simp only [List.getElem?_toArray, List.getElem?_cons_zero, List.getElem?_cons_succ] at b0 b1
              have hbl := XB2.out.lt
              simp only [Nat.add_zero] at s0 q0 v0 y0
              have hdm : decide ((m : Int) < 0) = false := by simp
              have hdm2 : decide ((n1 : Int) ≤ (m : Int)) = false := by simp; omega
              have HZM := Lib.hid (HZIP.out m t' u' ht' hu')
              clear htc2 htc3 hrc2 hrc3 ht' hu'
              by_cases hxe : t.x = t'.x
              · rw [← hxe] at q0
                by_cases hq : u = u'
                · have hvb : vlB u.k u.n u.t u'.k u'.n u'.t = true := decide_eq_true hq
                  have HQ := Lib.hid hq
                  clear hq hxe
                  go_wp2_with fail
                  go_quiet (fail)
                  go_wp2_with fail
                  go_roundw
                  case rel =>
                    refine ⟨m + 1, by omega, by go_num, Lib.hid ?_, Lib.hid (XB2.out.drewN _), Lib.hid (bdrewN BW2.out _)⟩
                    intro j q hj hjq he
                    rcases Nat.lt_or_eq_of_le (Nat.le_of_lt_succ hj) with h | rfl
                    · exact HSO.out j q h hjq he
                    · rw [HZM.out] at hjq
                      simp only [Option.some.injEq] at hjq
                      subst hjq
                      exact HQ.out
                  case measure => simp [intOf]; omega
                · have hvb : vlB u.k u.n u.t u'.k u'.n u'.t = false := decide_eq_false hq
                  have hres : RES = none := HNO.out k hlt (fun hk => hq ((hk _ HZK.out).2 m _ hmk HZM.out HXN.out hxe))
                  subst hres
                  clear hq hxe
                  go_wp2_with fail
                  go_quiet (fail)
                  go_wp2_with fail
                  go_ret2
                  exact matchPost_none (bdrewN BW2.out _)
              · have hxb : (t.x == t'.x) = false := by rw [beq_eq_false_iff_ne]; exact hxe
                have hxc : ¬ ((⟨t.x.toArray⟩ : ByteArray) = ⟨t'.x.toArray⟩) := fun e => hxe (bytes_eq.1 e)
                have HXE := Lib.hid hxe
                clear hxe
                go_wp2_with fail
                go_quiet (fail)
                go_wp2_with fail
                go_roundw
                case rel =>
                  refine ⟨m + 1, by omega, by go_num, Lib.hid ?_, Lib.hid (XB2.out.drewN _), Lib.hid (bdrewN BW2.out _)⟩
                  intro j q hj hjq he
                  rcases Nat.lt_or_eq_of_le (Nat.le_of_lt_succ hj) with h | rfl
                  · exact HSO.out j q h hjq he
                  · rw [HZM.out] at hjq
                    simp only [Option.some.injEq] at hjq
                    subst hjq
                    exact absurd he HXE.out
                case measure => simp [intOf]; omega
            · obtain rfl : m = k := by omega
              have hok : ∀ i, i < m + 1 → okI Z i := by
                intro i hi
                rcases Nat.lt_or_eq_of_le (Nat.le_of_lt_succ hi) with h | rfl
                · exact HOK.out i h
                · intro p hp
                  rw [HZK.out] at hp
                  simp only [Option.some.injEq] at hp
                  subst hp
                  exact ⟨fun h => absurd h HXN.out, fun j q hj hjq _ he => HSO.out j q hj hjq he⟩
              have HOK2 := Lib.hid hok
              clear hok
              go_wp2_with fail
              go_roundw
              case rel => exact ⟨m + 1, by omega, by go_num, HOK2, XB2, BW2⟩
              case measure => simp [intOf]; omega
      · obtain rfl : k = n1 := by omega
        have hres := HYES.out HOK.out
        subst hres
        have HCALL := Lib.hid (HAVH.out wo (HR.out.keep BW.out))
        clear HNO HYES
        go_wp2_with fail
        refine HCALL.out.mono ?_
        rintro e w1 ⟨v, rfl, hown, hb1⟩
        obtain ⟨va, vc, rfl⟩ := own_sl hown
        have hbw1 : Below w.heap.size w w1 := BW.out.trans (hb1.mono BW.out.size)
        have HBW1 := Lib.hid hbw1
        have HBX1 := Lib.hid (XB.out.below hb1 XB.out.lt)
        have hw1z := hbw1.size
        have HOV := Lib.hid (World.ownsRow.low hown (show 0 ≤ _ from Nat.zero_le _))
        clear hown hb1 hbw1
        go_wp2_with (at_make; refine wpList_make_full _ rfl _ _ 35 rfl w.heap.size 45 i0 (.agg #[.int .i64 0, .int .i64 0, .string ⟨#[]⟩]) 3 Tryd.underlying35 hi0 hz0 hz1 _ _ _ _ V.length rfl rfl rfl rfl ?b2 ?b3 ?b4 ?_)
        case b2 => rw [hz2]; omega
        case b3 => unfold maxLen; omega
        case b4 => omega
        intro w2 hown2 hgrow2
        have hmr := made_rows zV.cells V.length (by decide)
        rw [zeros_map] at hmr
        have hfd : fillV V (Z.drop k) (V.map fun _ => zV) = V.map fun _ => zV := by
          rw [List.drop_of_length_le (by rw [HZL.out]; exact Nat.le_refl _)]
          rfl
        have hown3 : w2.ownsRow w.heap.size 45 3 (.slice (some ⟨w1.heap.size, 0, none⟩) V.length V.length) V.length ((fillV V (Z.drop k) (V.map fun _ => zV)).map Vl.cells).flatten := by
          rw [hfd, ← hmr]
          exact hown2
        have HO3 := Lib.hid hown3
        have hbw2 : Below w.heap.size w w2 := HBW1.out.grown hgrow2 hw1z (fun q hq => by cases hq)
        have HBW2 := Lib.hid hbw2
        have HBX2 := Lib.hid (HBX1.out.grown hgrow2 (by simp))
        have HOV2 := Lib.hid (World.ownsRow.kept HOV.out hgrow2 (by cases hh : Value.ownBlock (.slice va V.length vc) <;> simp))
        have hdisj : ∀ q, Value.ownBlock (.slice va V.length vc) = some q → q < w1.heap.size := fun q hq => (HOV.out.lt q hq).2
        have HDJ := Lib.hid hdisj
        have HXG := Lib.hid (show w.heap.size < w1.heap.size from HBX1.out.lt)
        generalize w1.heap.size = g at *
        clear hmr hfd hown2 hown3 hgrow2 hbw2 hdisj
        go_wp2_with fail
        go_loopw [10] (fun i wr => ∃ m : Nat, m ≤ k ∧ i = .int .i64 (prevI m) ∧ Hid (wr.ownsRow w.heap.size 45 3 (.slice (some ⟨g, 0, none⟩) V.length V.length) V.length ((fillV V (Z.drop m) (V.map fun _ => zV)).map Vl.cells).flatten) ∧ Hid (wr.ownsRow 0 9 1 (.slice va V.length vc) V.length (V.map fun s => .string ⟨s.toArray⟩)) ∧ Hid (Blk wr w.heap.size 33 #[.string rel, .slice ad k cap]) ∧ Hid (Below w.heap.size w wr)) (fun i _ => (intOf i + 1).toNat)
        case atStart => exact ⟨k, Nat.le_refl _, by rw [prevI_eq], HO3, HOV2, HBX2, HBW2⟩
        case round =>
          obtain ⟨m, hm, rfl, OW, OV, XB2, BW2⟩ := hrel
          cases m with
          | zero =>
            have hpe : prevI 0 = -1 := rfl
            rw [hpe]
            have hfz : fillV V (Z.drop 0) (V.map fun _ => zV) = valsP V Z := HFILL.out
            have ho := OW.out
            rw [hfz] at ho
            have HOE := Lib.hid ho
            have HVL := Lib.hid (valsP_len V Z)
            clear hpe hfz ho
            go_wp2_with fail
            go_ret2
            exact matchPost_some HOE.out HVL.out.symm BW2.out
          | succ j =>
            have hpe : prevI (j + 1) = (j : Int) := rfl
            rw [hpe]
            obtain ⟨t, ht⟩ : ∃ t, ts[j]? = some t := ⟨ts[j]'(by rw [HN.out]; omega), List.getElem?_eq_getElem (by rw [HN.out]; omega)⟩
            obtain ⟨u, hu⟩ : ∃ u, vs[j]? = some u := ⟨vs[j]'(by rw [HL.out]; omega), List.getElem?_eq_getElem (by rw [HL.out]; omega)⟩
            obtain ⟨tb, to, tcap, htv, _, _, htbl, htc⟩ := (HR.out.keep BW2.out).get (i := j) (x := t.cells) (by simp [ht])
            simp only [List.length_map, HN.out, Value.slice.injEq, true_and] at htv
            obtain ⟨rfl, rfl⟩ := htv
            obtain ⟨rb, ro, rcap', hrv, _, _, hrbl, hrc'⟩ := (HRR.out.keep BW2.out).get (i := j) (x := u.cells) (by simp [hu])
            simp only [List.length_map, HL.out, Value.slice.injEq, true_and] at hrv
            obtain ⟨rfl, rfl⟩ := hrv
            have t0 := htc 0 _ rfl
            have r0 := hrc' 0 _ rfl
            have r1 := hrc' 1 _ rfl
            have r2 := hrc' 2 _ rfl
            have b0 := XB2.out.cell 0
            have b1 := XB2.out.cell 1
            simp only [List.getElem?_toArray, List.getElem?_cons_zero, List.getElem?_cons_succ] at b0 b1
            have hbl := XB2.out.lt
            simp only [Nat.add_zero] at t0 r0
            have hdj : decide ((j : Int) < 0) = false := by simp
            have hdn : decide ((k : Int) ≤ (j : Int)) = false := by simp; omega
            have hge : decide ((0 : Int) ≤ (j : Int)) = true := by simp
            have hfs := fillV_step (V := V) (l := V.map fun _ => zV) (HZIP.out j t u ht hu)
            by_cases hx : t.x = []
            · rw [hx] at t0
              rw [if_pos hx] at hfs
              have ho := OW.out
              rw [← hfs] at ho
              have HOE := Lib.hid ho
              clear hx hfs ho htc hrc' ht hu hpe
              go_wp2_with fail
              go_roundw
              case rel => exact ⟨j, by omega, by rw [← prevI_eq], HOE, OV, XB2, BW2⟩
              case measure => simp [intOf]
            · rw [if_neg hx] at hfs
              have hmm := HMEM.out t (List.mem_of_getElem? ht) hx
              have hil := List.idxOf_lt_length_of_mem hmm
              have hid : idxI V t.x = (V.idxOf t.x : Int) := by unfold idxI; rw [if_pos hmm]
              have he2 : t.x.isEmpty = false := by
                cases hxx : t.x with
                | nil => exact absurd hxx hx
                | cons _ _ => rfl
              have he3 : (!t.x.isEmpty) = true := by rw [he2]; rfl
              have hx0 := ba_empty hx
              have hst : StrsAt wr (.slice va V.length vc) V := OwnS.strs (show OwnS 0 wr _ V from OV.out) (by omega)
              have hat := refAt_any wr.drew _ V t.x (hst.keep (bdrew (Below.refl _ _)))
              rw [hid] at hat
              have HAT := Lib.hid hat
              generalize V.idxOf t.x = p at *
              obtain ⟨⟨z0, c0⟩, f0, hgl⟩ := own_cell OW.out hil (j := 0) (by decide)
              obtain ⟨⟨z1, c1⟩, f1, _⟩ := own_cell OW.out hil (j := 1) (by decide)
              obtain ⟨⟨z2, c2⟩, f2, _⟩ := own_cell OW.out hil (j := 2) (by decide)
              simp only [Nat.add_zero] at c0 f0
              have hdp : decide ((p : Int) < 0) = false := by simp
              have hdp2 : decide ((V.length : Int) ≤ (p : Int)) = false := by simp; omega
              have hjk : j < k := by omega
              have HFS := Lib.hid hfs
              have HLE := Lib.hid hil
              clear hx hfs hat hst hid hmm htc hrc' ht hu hpe
              go_wp2_with fail
              go_region_law (go_simp; go_at_call 59; refine HAT.out.mono ?_; rintro e w5 ⟨rfl, rfl⟩)
              all_goals
                obtain ⟨hs1, hs2, hs3⟩ := own_setCells (cells := u.cells) OW.out (vl_len _) (by rw [List.length_map, fillV_len, List.length_map]) HLE.out (by intro v hv; simp only [Vl.cells, List.mem_cons, List.not_mem_nil, or_false] at hv; rcases hv with rfl | rfl | rfl <;> rfl)
                rw [← List.map_set, ← HFS.out] at hs1
                obtain ⟨wq, hwq⟩ : ∃ wq, wq = wr.setCells g (p * u.cells.length) u.cells := ⟨_, rfl⟩
                rw [← hwq] at hs1 hs2 hs3
                have hww : ((wr.setCell ⟨g, p * 3, none⟩ (.int .i64 u.k)).setCell ⟨g, p * 3 + 1, none⟩ (.int .i64 u.n)).setCell ⟨g, p * 3 + 2, none⟩ (.string ⟨u.t.toArray⟩) = wq := hwq.symm
                rw [hww]
                have hgne : w.heap.size ≤ g := by
                  rcases OW.out.2 with ⟨h0, _⟩ | ⟨g', _, _, hv, hb, _⟩
                  · simp at h0
                  · simp only [Value.slice.injEq, Option.some.injEq, Addr.mk.injEq, and_true] at hv
                    omega
                have hbx2 := XB2.out.mod hs2 (by have := HXG.out; omega)
                have hov2 := hs2.ownsRow OV.out (by intro q hq e; have := HDJ.out q hq; omega)
                have hbq : Below w.heap.size w wq := Mod.own BW2.out hs2 hgne
                have HS1 := Lib.hid hs1.drew
                have HBX := Lib.hid hbx2.drew
                have HOV3 := Lib.hid hov2.drew
                have HBQ := Lib.hid (bdrew hbq)
                clear hs1 hs2 hs3 hwq hww hbx2 hov2 hbq hgne
                go_wp2_with fail
                go_roundw
                case rel => exact ⟨j, by omega, by rw [← prevI_eq], HS1, HOV3, HBX, HBQ⟩
                case measure => simp [intOf]
  · have hres : matchR ts vs = none := by unfold matchR; rw [if_neg hl]
    have hq : ((vs.length : Int) != (ts.length : Int)) = true := by simpa using fun e => hl (by omega)
    rw [hres]
    clear hres h hr hneq
    go_enter Tryd.func23, Tryd.ntmps23
    go_wp2_with fail
    go_ret2
    exact matchPost_none (balloc (Below.refl _ _) _)
end Go.Proofs.YtgilflkgibfjgaaDoor
