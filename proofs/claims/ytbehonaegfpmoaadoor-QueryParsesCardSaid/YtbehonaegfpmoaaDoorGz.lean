/- osierref08.Open, walked. osierlaw09.awake, walked. QueryParses, walked. -/
import Derived.Test.YtbehonaegfpmoaaDoorGf
import Derived.Test.YtbehonaegfpmoaaDoorGo
import Derived.Test.YtbehonaegfpmoaaDoorRl2
import Derived.Test.YtbehonaegfpmoaaDoorQp
import Derived.Test.YtbehonaegfpmoaaDoorGm
import Derived.Test.YtbehonaegfpmoaaDoorFq1
import Derived.Test.YtbehonaegfpmoaaDoorFs
import Derived.KernelRfl
namespace Go.Proofs.YtbehonaegfpmoaaDoor
open Go.RowKit
set_option linter.unusedVariables false

def startS (R : LxR) : LS := if R.e = 0 then .ok R.ts else .bad R.at_ R.e
theorem startS_good (l : List UInt8) : Good (startS (lexR l)) := by
  unfold startS
  by_cases h : (lexR l).e = 0
  · rw [if_pos h]
    exact (lex_ended h).1
  · rw [if_neg h]
    exact h

set_option maxHeartbeats 1000000 in
set_option maxRecDepth 100000 in
theorem refOpen_any (s : ByteArray) (w : World) (hs : s.size ≤ 281474976710656) (hg : Glob w) :
    Calls Tryd.prog 69 #[.string s] w fun e w' => ∃ b vt, e = .returned (.pointer (some ⟨b, 0, none⟩)) ∧ w.heap.size ≤ b ∧ Ln w' b (startS (lexR s.data.toList)) vt ∧ Below w.heap.size w w' := by
  have ht := refTokens_any s w hs hg
  have hc := lexR_count s.data.toList
  have hlen : (lexR s.data.toList).ts.length ≤ 100000 := by
    by_cases hl : 16384 < s.data.toList.length
    · unfold lexR
      rw [if_pos hl]
      decide
    · omega
  have hE : ∀ (W : World) (b : Nat) (vt : Value), Blk W b 136 #[vt, .int .i64 0, .int .i64 (lexR s.data.toList).at_, .int .i64 (lexR s.data.toList).e] → W.ownsRow 0 128 6 vt (lexR s.data.toList).ts.length (tcells (lexR s.data.toList).ts) → Ln W b (startS (lexR s.data.toList)) vt := by
    intro W b vt h1 h2
    refine ⟨(lexR s.data.toList).ts, 0, _, _, ⟨h1, h2, hlen, by decide⟩, ?_⟩
    unfold startS
    split
    · rename_i heq
      split at heq
      · cases heq
      · injection heq with e1 e2
        exact ⟨e1, e2⟩
    · rename_i heq
      split at heq
      · rename_i he
        injection heq with e1
        exact ⟨he, e1⟩
      · cases heq
  have HE := Lib.hid hE
  have HT := Lib.hid ht
  clear ht hc hlen hE
  generalize lexR s.data.toList = R at *
  obtain ⟨ts, p, e0⟩ := R
  unfold TokPost at HT
  simp only at HT HE
  go_enter Tryd.func69, Tryd.ntmps69
  go_wp2_with fail
  refine HT.out.mono ?_
  rintro e w1 ⟨ad, cap, rfl, hown, hb⟩
  have HB := Lib.hid hb
  have HO := Lib.hid (World.ownsRow.low hown (Nat.zero_le _))
  have hz := hb.size
  clear hown hb
  go_wp2_with fail
  go_ret
  exact ⟨w1.heap.size, _, rfl, hz, HE.out _ _ _ (Blk.new _ _ _) (HO.out.alloc _), balloc HB.out _⟩
end Go.Proofs.YtbehonaegfpmoaaDoor
namespace Go.Proofs.YtbehonaegfpmoaaDoor
open Go.RowKit
set_option linter.unusedVariables false

def bsAw : ByteArray := ⟨#[81, 40, 120, 41, 32, 58, 45, 32, 82, 40, 120, 44, 32, 53, 41]⟩
def tsAw : List Trm := [⟨[120], 0, 0, []⟩, ⟨[], 1, 5, []⟩]
def vsAw : List Vl := [⟨2, 0, [97]⟩, ⟨1, 5, []⟩]
theorem aw_e : (lexR bsAw.data.toList).e = 0 := by kernel_rfl
theorem aw_q : queryT (lexR bsAw.data.toList).ts = .ok ⟨[81], [[120]], [⟨[82], tsAw⟩]⟩ [] := by kernel_rfl
theorem aw_m : matchR tsAw vsAw = some [⟨2, 0, [97]⟩] := by kernel_rfl

/-- query.Parse of a line that is cut into tokens. -/
theorem parse_line (s : ByteArray) (w : World) (hs : s.size ≤ 281474976710656) (hg : Glob w) (he : (lexR s.data.toList).e = 0) :
    Calls Tryd.prog 16 #[.string s] w (QPost w (queryT (lexR s.data.toList).ts)) :=
  parse_good s w _ fun W hb => open_good s W hs (hg.below hb) he
theorem parse_fault (s : ByteArray) (w : World) (hs : s.size ≤ 281474976710656) (hg : Glob w) (he : (lexR s.data.toList).e ≠ 0) :
    Calls Tryd.prog 16 #[.string s] w (QPost w (.bad (lexR s.data.toList).at_ (lexR s.data.toList).e)) :=
  parse_bad s w _ _ fun W hb => open_bad s W hs (hg.below hb) he

theorem own1 {w : World} {B : Nat} {e : TypeId} {sz : Nat} {v : Value} {xs : List Value} (h : w.ownsRow B e sz v 1 xs) : ∃ (g cap : Nat), v = .slice (some ⟨g, 0, none⟩) 1 cap ∧ 1 ≤ cap ∧ cap ≤ maxLen ∧ g < w.heap.size ∧ ∀ (i : Nat) (u : Value), i < sz → xs[i]? = some u → w.cell? ⟨g, i, none⟩ = some u := by
  rcases h.2 with ⟨_, h0⟩ | ⟨g, cap, cur, rfl, _, hg, hnc, hcm, _⟩
  · omega
  · exact ⟨g, cap, rfl, hnc, hcm, (Array.getElem?_eq_some_iff.1 hg).1, fun i u hi hu => (h.cellAt i (by omega)).trans hu⟩

set_option maxHeartbeats 4000000 in
set_option maxRecDepth 100000 in
theorem awake09 (w : World) (hg : Glob w) : Calls Tryd.prog 18 #[] w fun e w' => e = .returned (.bool true) ∧ Below w.heap.size w w' := by
  have hp := parse_line bsAw w (by decide) hg aw_e
  rw [aw_q] at hp
  have HP := Lib.hid hp
  clear hp hg
  unfold bsAw at HP
  go_enter Tryd.func18, Tryd.ntmps18
  go_wp2_with fail
  refine HP.out.mono ?_
  rintro e w1 ⟨hv, av, rfl, hh, ⟨rows, ha, hr⟩, hb⟩
  obtain ⟨gh, ch, rfl, _, hcm1, hgl, hc⟩ := own1 hh
  have c0 := hc 0 _ (by decide) rfl
  obtain ⟨r0, rfl, hr0⟩ : ∃ r0, rows = [r0] ∧ AtmO w.heap.size w1 r0 ⟨[82], tsAw⟩ := by
    match rows, hr with
    | [r0], h => exact ⟨r0, rfl, h.1⟩
  obtain ⟨tv, rfl, ht⟩ := hr0
  obtain ⟨ga, ca, rfl, _, hcm2, hgal, hac⟩ := own1 ha
  have d0 := hac 0 _ (by decide) rfl
  have d1 := hac 1 _ (by decide) rfl
  have htr : RowAt w1 tv 4 (tsAw.map Trm.cells) := RowAt.ofOwn (by rw [map_flat]; exact ht) rfl (trm_len _) (by decide)
  obtain ⟨ta, tc, rfl, _, _⟩ := htr.form
  unfold maxLen at hcm1 hcm2
  have hz := hb.size
  have HB := Lib.hid hb
  have HTR := Lib.hid htr
  have hM : ∀ (O1 : Obj), Calls Tryd.prog 27 #[.agg #[.string ⟨#[82]⟩, .slice ta (tsAw.map Trm.cells).length tc], .slice (some ⟨w1.heap.size + 1, 0, none⟩) 2 2] ((w1.alloc O1).alloc (.cells #[.int .i64 2, .int .i64 0, .string ⟨#[97]⟩, .int .i64 1, .int .i64 5, .string ⟨#[]⟩] 52)) (MatchPost ((w1.alloc O1).alloc (.cells #[.int .i64 2, .int .i64 0, .string ⟨#[97]⟩, .int .i64 1, .int .i64 5, .string ⟨#[]⟩] 52)) (some [⟨2, 0, [97]⟩])) := fun O1 => by
    have := match_any ((w1.alloc O1).alloc (.cells #[.int .i64 2, .int .i64 0, .string ⟨#[97]⟩, .int .i64 1, .int .i64 5, .string ⟨#[]⟩] 52)) ⟨#[82]⟩ (.slice ta (tsAw.map Trm.cells).length tc) (.slice (some ⟨w1.heap.size + 1, 0, none⟩) 2 2) tsAw vsAw (htr.keep (balloc (balloc (Below.refl _ _) _) _)) (RowAt.ofOwn (base := 0) (e := 52) (n := 2) (by
        have h := World.ownsRow_lit (base := 0) (e := 52) (size := 3) (w1.alloc O1) #[.int .i64 2, .int .i64 0, .string ⟨#[97]⟩, .int .i64 1, .int .i64 5, .string ⟨#[]⟩] 2 (Nat.zero_le _) (by decide) rfl
        simpa [vsAw, Vl.cells] using h) rfl (by intro x hx; simp [vsAw] at hx; rcases hx with rfl | rfl <;> rfl) (by decide)) (by decide) (by decide)
    rwa [aw_m] at this
  have HM := Lib.hid hM
  clear hh ha hr hc hac hb ht htr hM
  go_wp2_with fail
  refine (HM.out _).mono ?_
  rintro e w2 ⟨v, rfl, ho, hb2⟩
  obtain ⟨gv, cv, rfl, _, hcm3, hgv, hcv⟩ := own1 ho
  have e2 := hcv 2 _ (by decide) rfl
  unfold maxLen at hcm3
  have HB2 := Lib.hid ((balloc (balloc HB.out _) _).trans (hb2.mono (by simp; omega)))
  clear ho hcv hb2
  go_wp2_with fail
  go_ret
  exact ⟨rfl, HB2.out⟩
end Go.Proofs.YtbehonaegfpmoaaDoor
namespace Go.Proofs.YtbehonaegfpmoaaDoor
open Go.RowKit
set_option linter.unusedVariables false

theorem parse_any (s : ByteArray) (w : World) (hs : s.size ≤ 281474976710656) (hg : Glob w) :
    Calls Tryd.prog 16 #[.string s] w (QPost w (refQ (startS (lexR s.data.toList)))) := by
  unfold startS
  by_cases he : (lexR s.data.toList).e = 0
  · rw [if_pos he, refQ_ok (lex_ended he).1]
    exact parse_line s w hs hg he
  · rw [if_neg he, refQ_bad]
    exact parse_fault s w hs hg he
theorem glob_alloc {w : World} (hg : Glob w) (o : Obj) : Glob (w.alloc o) := hg.below (balloc (Below.refl _ _) o)
theorem refParse_line (s : ByteArray) (w : World) (hs : s.size ≤ 281474976710656) (hg : Glob w) :
    Calls Tryd.prog 17 #[.string s] w (QPost w (refQ (startS (lexR s.data.toList)))) := by
  refine refParse_any s w _ (startS_good _) ?_
  refine (refOpen_any s _ hs (glob_alloc hg _)).mono ?_
  rintro e w' ⟨b, vt, rfl, h1, h2, h3⟩
  have e1 : (w.alloc (.cells #[.string ⟨#[]⟩, .slice none 0 0, .slice none 0 0] 25)).heap.size = w.heap.size + 1 := by simp
  rw [e1] at h1 h3
  exact ⟨b, vt, rfl, h1, h2, h3⟩

theorem queryT_small {ts c : List Tok} {q : Qry} (h : queryT ts = .ok q c) : q.head.length ≤ ts.length + 1 ∧ q.atoms.length ≤ 6 ∧ ∀ a ∈ q.atoms, a.ts.length ≤ 5 := by
  unfold queryT at h
  cases h1 : nameP ts with
  | bad a e => rw [h1] at h; cases h
  | ok n c1 =>
    rw [h1] at h
    simp only at h
    cases h2 : listP nameP c1 with
    | bad a e => rw [h2] at h; cases h
    | ok hs c2 =>
      rw [h2] at h
      simp only at h
      cases h3 : tk 3 [[58, 45]] c2 with
      | bad a e => rw [h3] at h; cases h
      | ok u c3 =>
        rw [h3] at h
        simp only at h
        cases h4 : someP atomP c3 with
        | bad a e => rw [h4] at h; cases h
        | ok l c4 =>
          rw [h4] at h
          simp only at h
          cases h5 : tk 0 [] c4 with
          | bad a e => rw [h5] at h; cases h
          | ok v c5 =>
            rw [h5] at h
            simp only [chkP] at h
            cases h6 : limP l with
            | some x => rw [h6] at h; cases h
            | none =>
              rw [h6] at h
              simp only at h
              have hq : qryOf n hs l = q := by
                generalize hs[(dupI (hs.map (·.1))).toNat]? = A at h
                generalize decide (0 ≤ dupI (hs.map (·.1))) = B at h
                generalize hs[(lackI (qVars (qryOf n hs l).atoms) (hs.map (·.1))).toNat]? = C at h
                generalize decide (0 ≤ lackI (qVars (qryOf n hs l).atoms) (hs.map (·.1))) = D at h
                rcases A with _ | x <;> rcases B with _ | _ <;> rcases C with _ | y <;> rcases D with _ | _ <;> simp only [PR.ok.injEq, reduceCtorEq] at h <;> exact h.1
              subst hq
              obtain ⟨k1, k2⟩ := lim_small h6
              have k3 := list_len name_less h2
              have k4 := name_less _ _ _ h1
              refine ⟨by simp only [qryOf, List.length_map]; omega, by simp only [qryOf, List.length_map]; exact k1, ?_⟩
              intro a ha
              rw [qryOf_atoms] at ha
              obtain ⟨z, hz, rfl⟩ := List.mem_map.1 ha
              have := k2 z hz
              simpa [convA] using this
theorem refQ_small {l : List UInt8} {q : Qry} {c : List Tok} (h : refQ (startS (lexR l)) = .ok q c) : q.head.length ≤ 200000 ∧ q.atoms.length ≤ 6 ∧ ∀ a ∈ q.atoms, a.ts.length ≤ 5 := by
  unfold startS at h
  by_cases he : (lexR l).e = 0
  · rw [if_pos he, refQ_ok (lex_ended he).1] at h
    have h1 := queryT_small h
    have h2 := (lex_ended he).2
    exact ⟨by omega, h1.2⟩
  · rw [if_neg he, refQ_bad] at h
    cases h
theorem AtomsOwn.at {B : Nat} {w : World} {v : Value} {al : List Atm} (h : AtomsOwn B w v al) (hl : al.length ≤ 6) (ht : ∀ a ∈ al, a.ts.length ≤ 5) : AtomsAt w v al := by
  obtain ⟨rows, h1, h2⟩ := h
  exact atomsRow (B := B) h1 rfl h2 (by omega) (fun a ha => by have := ht a ha; omega)
theorem AtomsAt.nil (w : World) : AtomsAt w (.slice none 0 0) [] := ⟨[], RowAt.nil _ _, trivial⟩
theorem StrsAt.nil (w : World) : StrsAt w (.slice none 0 0) [] := RowAt.nil _ _

set_option maxHeartbeats 4000000 in
set_option maxRecDepth 100000 in
theorem parses_law (s : ByteArray) (w : World) (hs : s.size ≤ 140737488351232) (hg : Glob w) :
    Calls Tryd.prog 3 #[.string s] w fun e w' => e = .returned (.bool true) ∧ Below w.heap.size w w' := by
  have hp := parse_any s w (by omega) hg
  have hr := fun W (h : Glob W) => refParse_line s W (by omega) h
  have ha := fun W (h : Glob W) => awake09 W h
  have hsm := fun q c => refQ_small (l := s.data.toList) (q := q) (c := c)
  generalize refQ (startS (lexR s.data.toList)) = P at hp hr hsm
  have HP := Lib.hid hp
  have HR := Lib.hid hr
  have HA := Lib.hid ha
  have HG := Lib.hid hg
  have HSM := Lib.hid hsm
  clear hp hr ha hg hsm
  cases P with
  | bad pa pf =>
    go_enter Tryd.func3, Tryd.ntmps3
    go_wp2_with fail
    refine HP.out.mono ?_
    rintro e w1 ⟨rfl, hb1⟩
    have HB1 := Lib.hid (balloc hb1 (.cells #[.string ⟨#[]⟩, .slice none 0 0, .slice none 0 0] 25))
    have HQ1 := Lib.hid (Blk.new w1 25 #[.string ⟨#[]⟩, .slice none 0 0, .slice none 0 0])
    have HR1 := Lib.hid (HR.out _ (HG.out.below HB1.out))
    clear hb1
    go_wp2_with fail
    refine HR1.out.mono ?_
    rintro e w2 ⟨rfl, hb2⟩
    have hb2' := hb2.mono (B' := w.heap.size) (by have := HB1.out.size; exact this)
    have HB2 := Lib.hid (balloc (HB1.out.trans hb2') (.cells #[.string ⟨#[]⟩, .slice none 0 0, .slice none 0 0] 25))
    have HQ2 := Lib.hid (((HQ1.out.below hb2 (by simp)).alloc (.cells #[.string ⟨#[]⟩, .slice none 0 0, .slice none 0 0] 25)))
    have HQ3 := Lib.hid (Blk.new w2 25 #[.string ⟨#[]⟩, .slice none 0 0, .slice none 0 0])
    have HA2 := Lib.hid (HA.out _ (HG.out.below HB2.out))
    have hz2 := hb2.size
    simp at hz2
    clear hb2 hb2'
    go_wp2_with fail
    refine HA2.out.mono ?_
    rintro e w3 ⟨rfl, hb3⟩
    have hq2 := HQ2.out.below hb3 (by simp; omega)
    have hq3 := HQ3.out.below hb3 (by simp)
    have x0 := hq2.cell 0
    have x1 := hq2.cell 1
    have x2 := hq2.cell 2
    have y0 := hq3.cell 0
    have y1 := hq3.cell 1
    have y2 := hq3.cell 2
    simp only [List.getElem?_toArray, List.getElem?_cons_zero, List.getElem?_cons_succ] at x0 x1 x2 y0 y1 y2
    have hl2 := hq2.lt
    have hl3 := hq3.lt
    have HS := Lib.hid (same_any w3 ⟨#[]⟩ (.slice none 0 0) (.slice none 0 0) (.slice none 0 0) (.slice none 0 0) [] [] (StrsAt.nil _) (StrsAt.nil _) (AtomsAt.nil _) (AtomsAt.nil _))
    have HB3 := Lib.hid (HB2.out.trans (hb3.mono HB2.out.size))
    clear hb3 hq2 hq3
    go_wp2_with fail
    refine HS.out.mono ?_
    rintro e w4 ⟨rfl, hb4⟩
    have HB4 := Lib.hid (HB3.out.trans (hb4.mono HB3.out.size))
    clear hb4
    go_wp2_with fail
    go_ret
    exact ⟨by simp, HB4.out⟩
  | ok q c =>
    obtain ⟨n1, n2, n3⟩ := HSM.out q c rfl
    go_enter Tryd.func3, Tryd.ntmps3
    go_wp2_with fail
    refine HP.out.mono ?_
    rintro e w1 ⟨hv, av, rfl, ho1, ha1, hb1⟩
    have hs1 : StrsAt w1 hv q.head := ho1.strs (by omega)
    have ht1 : AtomsAt w1 av q.atoms := ha1.at n2 n3
    obtain ⟨h1a, h1c, rfl, _, _⟩ := hs1.form
    obtain ⟨a1a, a1c, rfl, _, _⟩ := ht1.form
    have HB1 := Lib.hid (balloc hb1 (.cells #[.string ⟨q.name.toArray⟩, .slice h1a q.head.length h1c, .slice a1a q.atoms.length a1c] 25))
    have HQ1 := Lib.hid (Blk.new w1 25 #[.string ⟨q.name.toArray⟩, .slice h1a q.head.length h1c, .slice a1a q.atoms.length a1c])
    have HS1 := Lib.hid (hs1.keep (balloc (Below.refl _ w1) (.cells #[.string ⟨q.name.toArray⟩, .slice h1a q.head.length h1c, .slice a1a q.atoms.length a1c] 25)))
    have HT1 := Lib.hid (ht1.keep (balloc (Below.refl _ w1) (.cells #[.string ⟨q.name.toArray⟩, .slice h1a q.head.length h1c, .slice a1a q.atoms.length a1c] 25)))
    have HR1 := Lib.hid (HR.out _ (HG.out.below HB1.out))
    clear hb1 ho1 ha1 hs1 ht1
    go_wp2_with fail
    refine HR1.out.mono ?_
    rintro e w2 ⟨hv, av, rfl, ho2, ha2, hb2⟩
    have hs2 : StrsAt w2 hv q.head := ho2.strs (by omega)
    have ht2 : AtomsAt w2 av q.atoms := ha2.at n2 n3
    obtain ⟨h2a, h2c, rfl, _, _⟩ := hs2.form
    obtain ⟨a2a, a2c, rfl, _, _⟩ := ht2.form
    have hb2' := hb2.mono (B' := w.heap.size) (by have := HB1.out.size; exact this)
    have bk2 : Below w2.heap.size w2 (w2.alloc (.cells #[.string ⟨q.name.toArray⟩, .slice h2a q.head.length h2c, .slice a2a q.atoms.length a2c] 25)) := balloc (Below.refl _ w2) _
    have HB2 := Lib.hid (balloc (HB1.out.trans hb2') (.cells #[.string ⟨q.name.toArray⟩, .slice h2a q.head.length h2c, .slice a2a q.atoms.length a2c] 25))
    have HQ2 := Lib.hid (((HQ1.out.below hb2 (by simp)).alloc (.cells #[.string ⟨q.name.toArray⟩, .slice h2a q.head.length h2c, .slice a2a q.atoms.length a2c] 25)))
    have HQ3 := Lib.hid (Blk.new w2 25 #[.string ⟨q.name.toArray⟩, .slice h2a q.head.length h2c, .slice a2a q.atoms.length a2c])
    have HS2 := Lib.hid ((HS1.out.keep hb2).keep bk2)
    have HT2 := Lib.hid ((HT1.out.keep hb2).keep bk2)
    have HS3 := Lib.hid (hs2.keep bk2)
    have HT3 := Lib.hid (ht2.keep bk2)
    have HA2 := Lib.hid (HA.out _ (HG.out.below HB2.out))
    have hz2 := hb2.size
    simp at hz2
    clear hb2 hb2' ho2 ha2 hs2 ht2 bk2
    go_wp2_with fail
    refine HA2.out.mono ?_
    rintro e w3 ⟨rfl, hb3⟩
    have hq2 := HQ2.out.below hb3 (by simp; omega)
    have hq3 := HQ3.out.below hb3 (by simp)
    have x0 := hq2.cell 0
    have x1 := hq2.cell 1
    have x2 := hq2.cell 2
    have y0 := hq3.cell 0
    have y1 := hq3.cell 1
    have y2 := hq3.cell 2
    simp only [List.getElem?_toArray, List.getElem?_cons_zero, List.getElem?_cons_succ] at x0 x1 x2 y0 y1 y2
    have hl2 := hq2.lt
    have hl3 := hq3.lt
    have HS := Lib.hid (same_any w3 ⟨q.name.toArray⟩ _ _ _ _ q.head q.atoms (HS2.out.keep hb3) (HS3.out.keep hb3) (HT2.out.keep hb3) (HT3.out.keep hb3))
    have HB3 := Lib.hid (HB2.out.trans (hb3.mono HB2.out.size))
    clear hb3 hq2 hq3
    go_wp2_with fail
    refine HS.out.mono ?_
    rintro e w4 ⟨rfl, hb4⟩
    have HB4 := Lib.hid (HB3.out.trans (hb4.mono HB3.out.size))
    clear hb4
    go_wp2_with fail
    go_ret
    exact ⟨by simp, HB4.out⟩
end Go.Proofs.YtbehonaegfpmoaaDoor
