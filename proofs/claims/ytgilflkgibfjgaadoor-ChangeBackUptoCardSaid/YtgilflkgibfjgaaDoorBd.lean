/- osierref10.alike, Same, at equal batches, walked. osierlaw10.awake, walked. A batch's text, read back: plainly. -/
import Derived.Test.YtgilflkgibfjgaaDoorCh0Z
import Derived.Test.YtgilflkgibfjgaaDoorRm2Z
import Derived.Test.YtgilflkgibfjgaaDoorGo
import Derived.Test.YtgilflkgibfjgaaDoorBb
import Derived.Test.YtgilflkgibfjgaaDoorCx
import Derived.Test.YtgilflkgibfjgaaDoorBc
import Derived.Deep.RegionHeld3
import Derived.Deep.RegionLaw
import Derived.KernelRfl
namespace Go.Proofs.YtgilflkgibfjgaaDoor
open Go.RowKit
set_option linter.unusedVariables false

theorem sameV_self (a : List Vl) : sameV a a = true := by
  unfold sameV
  exact decide_eq_true rfl

set_option maxHeartbeats 4000000 in
set_option maxRecDepth 100000 in
theorem alike_any (w : World) (c : Chg) (rv ru : Value) (h : RowAt w rv 3 (c.row.map Vl.cells)) (h2 : RowAt w ru 3 (c.row.map Vl.cells)) :
    Calls Tryd.prog 69 #[.agg #[.bool c.add, .string ⟨c.rel.toArray⟩, rv], .agg #[.bool c.add, .string ⟨c.rel.toArray⟩, ru]] w fun e w' => e = .returned (.bool true) ∧ Below w.heap.size w w' := by
  have hb0 : Below w.heap.size w ((w.alloc (.cells #[.bool c.add, .string ⟨c.rel.toArray⟩, rv] 56)).alloc (.cells #[.bool c.add, .string ⟨c.rel.toArray⟩, ru] 56)) := balloc (balloc (Below.refl _ _) _) _
  have hsm := sameRow_any _ rv ru c.row c.row (h.keep hb0) (h2.keep hb0)
  rw [sameV_self] at hsm
  obtain ⟨ra, rc, rfl, _, _⟩ := h.form
  obtain ⟨ua, uc, rfl, _, _⟩ := h2.form
  have HSM := Lib.hid hsm
  have HB0 := Lib.hid hb0
  clear h h2 hsm hb0
  generalize (c.row.map Vl.cells).length = n at *
  generalize c.add = ad at *
  generalize c.rel = nm at *
  go_enter Tryd.func69, Tryd.ntmps69
  go_wp2_with fail
  refine HSM.out.mono ?_
  rintro e w6 ⟨rfl, hb6⟩
  have HB6 := Lib.hid (HB0.out.trans (hb6.mono HB0.out.size))
  clear hb6
  go_wp2_with fail
  go_ret
  exact ⟨rfl, HB6.out⟩

/-- The k-th change of two batches. -/
def KC (p q : Addr) (c : Chg) (rv ru : Value) (W0 W : World) : Prop :=
  W.cell? p = some (.bool c.add) ∧ W.cell? ⟨p.block, p.off + 1, none⟩ = some (.string ⟨c.rel.toArray⟩) ∧ W.cell? ⟨p.block, p.off + 2, none⟩ = some rv ∧
  W.cell? q = some (.bool c.add) ∧ W.cell? ⟨q.block, q.off + 1, none⟩ = some (.string ⟨c.rel.toArray⟩) ∧ W.cell? ⟨q.block, q.off + 2, none⟩ = some ru ∧ Below W0.heap.size W0 W
theorem KC.step {p q : Addr} {c : Chg} {rv ru : Value} {W0 W W' : World} (h : KC p q c rv ru W0 W) (h1 : p.block < W0.heap.size) (h2 : q.block < W0.heap.size) (hb : Below W.heap.size W W') : KC p q c rv ru W0 W' := by
  obtain ⟨k0, k1, k2, k3, k4, k5, k6⟩ := h
  have hz := k6.size
  exact ⟨(hb.cell (by omega)).trans k0, (hb.cell (p := ⟨p.block, p.off + 1, none⟩) (by simp only; omega)).trans k1, (hb.cell (p := ⟨p.block, p.off + 2, none⟩) (by simp only; omega)).trans k2, (hb.cell (by omega)).trans k3, (hb.cell (p := ⟨q.block, q.off + 1, none⟩) (by simp only; omega)).trans k4, (hb.cell (p := ⟨q.block, q.off + 2, none⟩) (by simp only; omega)).trans k5, k6.trans (hb.mono hz)⟩

set_option maxHeartbeats 8000000 in
set_option maxRecDepth 100000 in
theorem sameChgs_any (w : World) (va vb : Value) (l : List Chg) (ha : ChgsAt w va l) (hb : ChgsAt w vb l) :
    Calls Tryd.prog 30 #[va, vb] w fun e w' => e = .returned (.bool true) ∧ Below w.heap.size w w' := by
  have hnot : ∀ (x : Bool) (w : World), (Op.unary .not (.bool x)).run Tryd.prog w = .ok (.bool (!x)) w := fun _ _ => rfl
  obtain ⟨aa, ac, rfl, hac, ham⟩ := ha.form
  obtain ⟨ba, bc, rfl, hbc, hbm⟩ := hb.form
  have hla := ha.len
  unfold maxLen at ham hbm
  have HA := Lib.hid ha
  have HB := Lib.hid hb
  clear ha hb
  generalize hN : l.length = n at *
  have HN := Lib.hid hN
  clear hN
  have hnn : ((n : Int) != (n : Int)) = false := by simp
  go_enter Tryd.func30, Tryd.ntmps30
  go_wp2_with fail
  go_loopw [5] (fun i wr => ∃ k : Nat, k ≤ n ∧ i = .int .i64 k ∧ Hid (Below w.heap.size w wr)) (fun i _ => n - (intOf i).toNat)
  case atStart => exact ⟨0, Nat.zero_le _, rfl, Lib.hid (Below.refl _ _)⟩
  case round =>
    obtain ⟨k, hk, rfl, BW⟩ := hrel
    obtain ⟨wo, rfl⟩ : ∃ wo : World, wo = wr := ⟨_, rfl⟩
    by_cases hlt : k < n
    · obtain ⟨c, hc⟩ : ∃ c, l[k]? = some c := ⟨l[k]'(by rw [HN.out]; exact hlt), List.getElem?_eq_getElem (by rw [HN.out]; exact hlt)⟩
      obtain ⟨b1, o1, c1, rv, hv1, _, _, hl1, q0, q1, q2, hr1, _⟩ := (HA.out.keep BW.out).get hc
      obtain ⟨b2, o2, c2, ru, hv2, _, _, hl2, p0, p1, p2, hr2, _⟩ := (HB.out.keep BW.out).get hc
      rw [HN.out] at hv1 hv2
      simp only [Value.slice.injEq, true_and] at hv1 hv2
      obtain ⟨rfl, rfl⟩ := hv1
      obtain ⟨rfl, rfl⟩ := hv2
      obtain ⟨r1a, r1c, rfl, _, _⟩ := hr1.form
      obtain ⟨r2a, r2c, rfl, _, _⟩ := hr2.form
      have hdk : decide ((k : Int) < 0) = false := by simp
      have hdn : decide ((n : Int) ≤ (k : Int)) = false := by simp; omega
      have hne : (c.add != c.add) = false := by simp
      have hbW := Below.refl wo.heap.size wo
      have HAL : Hid (∀ W, KC ⟨b1, o1 + k * 3, none⟩ ⟨b2, o2 + k * 3, none⟩ c (.slice r1a (c.row.map Vl.cells).length r1c) (.slice r2a (c.row.map Vl.cells).length r2c) wo W → Calls Tryd.prog 69 #[.agg #[.bool c.add, .string ⟨c.rel.toArray⟩, .slice r1a (c.row.map Vl.cells).length r1c], .agg #[.bool c.add, .string ⟨c.rel.toArray⟩, .slice r2a (c.row.map Vl.cells).length r2c]] W fun e w' => e = .returned (.bool true) ∧ KC ⟨b1, o1 + k * 3, none⟩ ⟨b2, o2 + k * 3, none⟩ c (.slice r1a (c.row.map Vl.cells).length r1c) (.slice r2a (c.row.map Vl.cells).length r2c) wo w') :=
        Lib.hid fun W h => (alike_any W c _ _ (hr1.keep h.2.2.2.2.2.2) (hr2.keep h.2.2.2.2.2.2)).mono fun e w' hh => ⟨hh.1, h.step hl1 hl2 hh.2⟩
      unfold KC at HAL
      clear hr1 hr2 hc
      generalize (c.row.map Vl.cells).length = rn at *
      go_wp2_with fail
      go_region_held3 (fun w' => w'.cell? ⟨b1, o1 + k * 3, none⟩ = some (.bool c.add) ∧ w'.cell? ⟨b1, o1 + k * 3 + 1, none⟩ = some (.string ⟨c.rel.toArray⟩) ∧ w'.cell? ⟨b1, o1 + k * 3 + 2, none⟩ = some (.slice r1a rn r1c) ∧ w'.cell? ⟨b2, o2 + k * 3, none⟩ = some (.bool c.add) ∧ w'.cell? ⟨b2, o2 + k * 3 + 1, none⟩ = some (.string ⟨c.rel.toArray⟩) ∧ w'.cell? ⟨b2, o2 + k * 3 + 2, none⟩ = some (.slice r2a rn r2c) ∧ Below wo.heap.size wo w')
        (first | exact hK | (go_split_ands; refine ⟨?_, ?_, ?_, ?_, ?_, ?_, ?_⟩ <;> first | exact bdrew (by assumption) | assumption | go_keep))
        (first | (go_at_call 69; go_split_ands; refine (HAL.out _ ⟨by assumption, by assumption, by assumption, by assumption, by assumption, by assumption, by assumption⟩).mono ?_; rintro e w' ⟨rfl, hK⟩))
      all_goals go_split_ands
      all_goals
        go_wp2_with fail
        go_roundw
        case rel => exact ⟨k + 1, by omega, by go_num, Lib.hid (BW.out.trans (Below.mono (by assumption) BW.out.size))⟩
        case measure => simp [intOf]; omega
    · obtain rfl : k = n := by omega
      go_wp2_with fail
      go_ret
      exact ⟨rfl, BW.out⟩
end Go.Proofs.YtgilflkgibfjgaaDoor
namespace Go.Proofs.YtgilflkgibfjgaaDoor
open Go.RowKit
set_option linter.unusedVariables false

def bsA10 : ByteArray := ⟨#[43, 82, 40, 53, 41]⟩
def chA10 : Chg := ⟨true, [82], [⟨1, 5, []⟩]⟩
theorem a10_e : (lexR bsA10.data.toList).e = 0 := by kernel_rfl
theorem a10_q : batchT (lexR bsA10.data.toList).ts = .ok [chA10] [] := by kernel_rfl
theorem a10_j : (Lib.join ([chA10].map chgT) [44, 32]).length = 5 := by kernel_rfl
theorem a10_s : showBt [chA10] = [43, 82, 40, 53, 41] := by kernel_rfl

/-- change.Parse of a line. -/
theorem batch_line (s : ByteArray) (w : World) (hs : s.size ≤ 281474976710656) (hg : Glob w) (he : (lexR s.data.toList).e = 0) :
    Calls Tryd.prog 33 #[.string s] w (BPost w (batchT (lexR s.data.toList).ts)) :=
  batch_good s w _ fun W hb => open_good s W hs (hg.below hb) he
theorem batch_fault (s : ByteArray) (w : World) (hs : s.size ≤ 281474976710656) (hg : Glob w) (he : (lexR s.data.toList).e ≠ 0) :
    Calls Tryd.prog 33 #[.string s] w (BPost w (.bad (lexR s.data.toList).at_ (lexR s.data.toList).e)) :=
  batch_bad s w _ _ fun W hb => open_bad s W hs (hg.below hb) he
/-- What change.Parse tells of a line. -/
def parseB (s : List UInt8) : PR (List Chg) := if (lexR s).e = 0 then batchT (lexR s).ts else .bad (lexR s).at_ (lexR s).e
theorem batch_any (s : ByteArray) (w : World) (hs : s.size ≤ 281474976710656) (hg : Glob w) :
    Calls Tryd.prog 33 #[.string s] w (BPost w (parseB s.data.toList)) := by
  unfold parseB
  by_cases he : (lexR s.data.toList).e = 0
  · rw [if_pos he]
    exact batch_line s w hs hg he
  · rw [if_neg he]
    exact batch_fault s w hs hg he

set_option maxHeartbeats 4000000 in
set_option maxRecDepth 100000 in
theorem awake10 (w : World) (hg : Glob w) : Calls Tryd.prog 27 #[] w fun e w' => e = .returned (.bool true) ∧ Below w.heap.size w w' := by
  have hp := batch_line bsA10 w (by decide) hg a10_e
  rw [a10_q] at hp
  have HP := Lib.hid hp
  have HG := Lib.hid hg
  clear hp hg
  unfold bsA10 at HP
  go_enter Tryd.func27, Tryd.ntmps27
  go_wp2_with fail
  refine HP.out.mono ?_
  rintro e w1 ⟨bv, rfl, hown, hb⟩
  have hat := hown.at (by decide) (by decide)
  have hsh := chgShow_any w1 bv [chA10] hat (by intro c hc u hu; simp [chA10] at hc; subst hc; simp at hu; subst hu; constructor <;> decide) (by decide) (fun _ => by rw [a10_j]; decide) (HG.out.below hb)
  rw [a10_s] at hsh
  obtain ⟨b, off, cap, rv, rfl, _, _, hbl, q0, q1, q2, hrow, _⟩ := hat.get (i := 0) (a := chA10) rfl
  obtain ⟨ra, rc, rfl, _, _⟩ := hrow.form
  simp only [Nat.zero_mul, Nat.add_zero, chA10, List.map_cons, List.map_nil, List.length_cons, List.length_nil, Nat.zero_add] at q0 q1 q2 hsh ⊢
  have HS := Lib.hid hsh
  have HB := Lib.hid hb
  clear hown hat hsh hrow hb
  go_wp2_with fail
  refine HS.out.mono ?_
  rintro e w2 ⟨rfl, hb2⟩
  have HB2 := Lib.hid (HB.out.trans (hb2.mono HB.out.size))
  clear hb2
  go_wp2_with fail
  go_ret
  exact ⟨rfl, HB2.out⟩
end Go.Proofs.YtgilflkgibfjgaaDoor
namespace Go.Proofs.YtgilflkgibfjgaaDoor
open Go.RowKit
set_option linter.unusedVariables false

theorem batch_lex {b : List Chg} (hb : ∀ c ∈ b, goodC c = true) (hr : RangeB b) (hl : (Lib.join (b.map chgT) [44, 32]).length ≤ 16384) :
    (lexR (Lib.join (b.map chgT) [44, 32])).e = 0 ∧ ∃ (l : List ChP) (N : Nat), batchT (lexR (Lib.join (b.map chgT) [44, 32])).ts = chkB l ∧ l.map (·.1) = b ∧ ∀ z ∈ l, ChgR N z := by
  obtain ⟨ts, l, c1, u, h1, h2, h3, h4⟩ := batch_reads hb hr
  have hs := lexR_short hl
  unfold LZ at h1
  have he : (lexR (Lib.join (b.map chgT) [44, 32])).e = 0 := by rw [hs, h1]
  have hts : (lexR (Lib.join (b.map chgT) [44, 32])).ts = ts := by rw [hs, h1]
  have hq := chgs_sure _ _ (lex_toksQ he (lex_ended he).1)
  refine ⟨he, l, (Lib.join (b.map chgT) [44, 32]).length, ?_, h4, ?_⟩
  · rw [hts]
    exact batchT_ok h2 h3
  · rw [hts, h2] at hq
    exact hq.1
theorem parseB_few {b : List Chg} (hb : ∀ c ∈ b, goodC c = true) (hr : RangeB b) (hl : (Lib.join (b.map chgT) [44, 32]).length ≤ 16384) (h : b.length ≤ 256) : parseB (Lib.join (b.map chgT) [44, 32]) = .ok b [] := by
  obtain ⟨he, l, N, h1, h2, _⟩ := batch_lex hb hr hl
  unfold parseB
  have hn : l.length = b.length := by rw [← h2, List.length_map]
  rw [if_pos he, h1, chkB_few (by omega), h2]
theorem parseB_many {b : List Chg} (hb : ∀ c ∈ b, goodC c = true) (hr : RangeB b) (hl : (Lib.join (b.map chgT) [44, 32]).length ≤ 16384) (h : 256 < b.length) : ∃ p, parseB (Lib.join (b.map chgT) [44, 32]) = .bad p 100 := by
  obtain ⟨he, l, N, h1, h2, h3⟩ := batch_lex hb hr hl
  unfold parseB
  have hn : l.length = b.length := by rw [← h2, List.length_map]
  rw [if_pos he, h1, chkB_many h3 (by omega)]
  exact ⟨_, rfl⟩
theorem parseB_long {s : List UInt8} (h : 16384 < s.length) : ∃ p, parseB s = .bad p 70 := by
  unfold parseB
  rw [lexR_long h]
  exact ⟨_, if_neg (by decide)⟩
/-- What is told of any line. -/
theorem parseB_sure (l : List UInt8) : match parseB l with
    | .bad a e => 0 ≤ a ∧ a ≤ l.length ∧ e ≠ 0
    | .ok b _ => b.length ≤ 256 ∧ ∀ c ∈ b, isNameB c.rel = true ∧ ∀ u ∈ c.row, validB u.k u.n u.t = true ∧ RangeV u := by
  unfold parseB
  by_cases he : (lexR l).e = 0
  · rw [if_pos he]
    exact batchT_sure (lex_toksQ he (lex_ended he).1)
  · rw [if_neg he]
    have := lex_placeQ l he
    exact ⟨this.1, this.2, he⟩
theorem joinC_len {b : List Chg} (hb : ∀ c ∈ b, goodC c = true) (hr : RangeB b) : (Lib.join (b.map chgT) [44, 32]).length ≤ 7821 * b.length := by
  have h1 := join_len (b := 7819) (b.map chgT) (fun x hx => by
    obtain ⟨c, hc, rfl⟩ := List.mem_map.1 hx
    exact chgT_size (hb c hc) (hr c hc))
  rw [List.length_map] at h1
  omega
def wideC (c : Chg) : Bool := decide (30 < c.row.length)
theorem wide_good {b : List Chg} (h : ∀ c ∈ b, isNameB c.rel = true ∧ ∀ u ∈ c.row, validB u.k u.n u.t = true ∧ RangeV u) (hw : b.any wideC = false) : ∀ c ∈ b, goodC c = true := by
  intro c hc
  have h1 := List.any_eq_false.1 hw c hc
  unfold wideC at h1
  simp only [decide_eq_true_eq, Nat.not_lt] at h1
  unfold goodC
  rw [(h c hc).1, all_rowB h1 (fun u hu => ((h c hc).2 u hu).1)]
  rfl
/-- Every thing that is read. -/
theorem more_allB {α : Type} {P : List Tok → PR α} (hP : Less P) {Q : α → Prop} {M : Nat} (hq : ∀ c x c', c.length ≤ M → P c = .ok x c' → Q x) : ∀ (f : Nat) (c : List Tok) (xs : List α) (c' : List Tok), c.length ≤ M → moreP P f c = .ok xs c' → ∀ x ∈ xs, Q x := by
  intro f
  induction f with
  | zero =>
    intro c xs c' _ h
    simp only [moreP, PR.ok.injEq] at h
    obtain ⟨rfl, _⟩ := h
    simp
  | succ f ih =>
    intro c xs c' hc h
    unfold moreP at h
    split at h
    · have hd : (c.drop 1).length ≤ M := by rw [List.length_drop]; omega
      cases h1 : P (c.drop 1) with
      | bad a e => rw [h1] at h; cases h
      | ok x c1 =>
        rw [h1] at h
        simp only at h
        have h2 := hP _ _ _ h1
        cases h3 : moreP P f c1 with
        | bad a e => rw [h3] at h; cases h
        | ok ys c2 =>
          rw [h3] at h
          simp only [PR.ok.injEq] at h
          obtain ⟨rfl, _⟩ := h
          intro y hy
          rcases List.mem_cons.1 hy with rfl | hy
          · exact hq _ _ _ hd h1
          · exact ih c1 ys c2 (by omega) h3 y hy
    · simp only [PR.ok.injEq] at h
      obtain ⟨rfl, _⟩ := h
      simp
theorem some_allB {α : Type} {P : List Tok → PR α} (hP : Less P) {Q : α → Prop} {M : Nat} (hq : ∀ c x c', c.length ≤ M → P c = .ok x c' → Q x) {c : List Tok} {xs : List α} {c' : List Tok} (hc : c.length ≤ M) (h : someP P c = .ok xs c') : ∀ x ∈ xs, Q x := by
  unfold someP at h
  cases h1 : P c with
  | bad a e => rw [h1] at h; cases h
  | ok x c1 =>
    rw [h1] at h
    simp only at h
    have h2 := hP _ _ _ h1
    cases h3 : moreP P c1.length c1 with
    | bad a e => rw [h3] at h; cases h
    | ok ys c2 =>
      rw [h3] at h
      simp only [PR.ok.injEq] at h
      obtain ⟨rfl, _⟩ := h
      intro y hy
      rcases List.mem_cons.1 hy with rfl | hy
      · exact hq _ _ _ hc h1
      · exact more_allB hP hq _ c1 ys c2 (by omega) h3 y hy
theorem parseB_rows {l : List UInt8} {b : List Chg} {c : List Tok} (h : parseB l = .ok b c) : ∀ x ∈ b, x.row.length ≤ 1000000 := by
  unfold parseB at h
  by_cases he : (lexR l).e = 0
  · rw [if_pos he] at h
    have hlen := (lex_ended he).2
    cases hc : chgsP (lexR l).ts with
    | bad a e => rw [batchT_bad1 hc] at h; cases h
    | ok zs c1 =>
      cases ht : tk 0 [] c1 with
      | bad a e => rw [batchT_bad2 hc ht] at h; cases h
      | ok u c2 =>
        rw [batchT_ok hc ht] at h
        have hb : zs.map (·.1) = b := by
          unfold chkB at h
          split at h
          · cases h
          · simp only [PR.ok.injEq] at h
            exact h.1
        have hz : ∀ z ∈ zs, z.1.row.length ≤ 1000000 := by
          unfold chgsP at hc
          split at hc
          · simp only [PR.ok.injEq] at hc
            rw [← hc.1]
            simp
          · refine some_allB (M := 100000) (Q := fun z : ChP => z.1.row.length ≤ 1000000) chg_less (fun d x d' hd hx => ?_) hlen hc
            cases e1 : tk 3 sgnX d with
            | bad a e => rw [chg_bad1 e1] at hx; cases hx
            | ok s d1 =>
              have g1 := tk_less _ _ _ _ _ e1
              cases e2 : tk 1 [] d1 with
              | bad a e => rw [chg_bad2 e1 e2] at hx; cases hx
              | ok t d2 =>
                have g2 := tk_less _ _ _ _ _ e2
                cases e3 : listP litP d2 with
                | bad a e => rw [chg_bad3 e1 e2 e3] at hx; cases hx
                | ok r d3 =>
                  rw [chg_ok e1 e2 e3] at hx
                  simp only [PR.ok.injEq] at hx
                  rw [← hx.1]
                  have := list_len lit_less e3
                  show r.length ≤ _
                  omega
        intro x hx
        rw [← hb] at hx
        obtain ⟨z, hz1, rfl⟩ := List.mem_map.1 hx
        exact hz z hz1
  · rw [if_neg he] at h
    cases h
end Go.Proofs.YtgilflkgibfjgaaDoor
