/- osierlaw10.awake, walked. A batch's text, read back: plainly. -/
import Derived.Test.YtgjknekoehfdfaaGreatDoorGo
import Derived.Test.YtgjknekoehfdfaaGreatDoorBb
import Derived.Test.YtgjknekoehfdfaaGreatDoorCx
import Derived.Test.YtgjknekoehfdfaaGreatDoorBc
import Derived.KernelRfl
namespace Go.Proofs.YtgjknekoehfdfaaGreatDoor
open Go.RowKit
set_option linter.unusedVariables false

def bsA10 : ByteArray := ⟨#[43, 82, 40, 53, 41]⟩
def chA10 : Chg := ⟨true, [82], [⟨1, 5, []⟩]⟩
theorem a10_e : (lexR bsA10.data.toList).e = 0 := by kernel_rfl
theorem a10_q : batchT (lexR bsA10.data.toList).ts = .ok [chA10] [] := by kernel_rfl
theorem a10_j : (Lib.join ([chA10].map chgT) [44, 32]).length = 5 := by kernel_rfl
theorem a10_s : showBt [chA10] = [43, 82, 40, 53, 41] := by kernel_rfl

/-- change.Parse of a line. -/
theorem batch_line (s : ByteArray) (w : World) (hs : s.size ≤ 281474976710656) (hg : Glob w) (he : (lexR s.data.toList).e = 0) :
    Calls Tryz.prog 37 #[.string s] w (BPost w (batchT (lexR s.data.toList).ts)) :=
  batch_good s w _ fun W hb => open_good s W hs (hg.below hb) he
theorem batch_fault (s : ByteArray) (w : World) (hs : s.size ≤ 281474976710656) (hg : Glob w) (he : (lexR s.data.toList).e ≠ 0) :
    Calls Tryz.prog 37 #[.string s] w (BPost w (.bad (lexR s.data.toList).at_ (lexR s.data.toList).e)) :=
  batch_bad s w _ _ fun W hb => open_bad s W hs (hg.below hb) he
/-- What change.Parse tells of a line. -/
def parseB (s : List UInt8) : PR (List Chg) := if (lexR s).e = 0 then batchT (lexR s).ts else .bad (lexR s).at_ (lexR s).e
theorem batch_any (s : ByteArray) (w : World) (hs : s.size ≤ 281474976710656) (hg : Glob w) :
    Calls Tryz.prog 37 #[.string s] w (BPost w (parseB s.data.toList)) := by
  unfold parseB
  by_cases he : (lexR s.data.toList).e = 0
  · rw [if_pos he]
    exact batch_line s w hs hg he
  · rw [if_neg he]
    exact batch_fault s w hs hg he

set_option maxHeartbeats 4000000 in
set_option maxRecDepth 100000 in
theorem awake10 (w : World) (hg : Glob w) : Calls Tryz.prog 14 #[] w fun e w' => e = .returned (.bool true) ∧ Below w.heap.size w w' := by
  have hp := batch_line bsA10 w (by decide) hg a10_e
  rw [a10_q] at hp
  have HP := Lib.hid hp
  have HG := Lib.hid hg
  clear hp hg
  unfold bsA10 at HP
  go_enter Tryz.func14, Tryz.ntmps14
  go_wp2_with fail
  refine HP.out.mono ?_
  rintro e w1 ⟨bv, rfl, hown, hb⟩
  have hat := hown.at (by decide) (by decide)
  have hsh := chgShow_any w1 bv [chA10] hat (by intro c hc u hu; simp [chA10] at hc; subst hc; simp at hu; subst hu; constructor <;> decide) (by decide) (fun _ => by rw [a10_j]; decide) (HG.out.below hb)
  rw [a10_s] at hsh
  obtain ⟨b, off, cap, rv, rfl, _, _, hbl, q0, q1, q2, hrow, _⟩ := hat.get (i := 0) (a := chA10) rfl
  obtain ⟨ra, rc, rfl, _, _⟩ := hrow.form
  simp only [Nat.zero_mul, Nat.add_zero, chA10, List.map_cons, List.map_nil, List.length_cons, List.length_nil, Nat.zero_add] at q0 q1 q2 hsh ⊢
  have HS := Lib.hid hsh
  have HB := Lib.hid hb
  clear hown hat hsh hrow hb
  go_wp2_with fail
  refine HS.out.mono ?_
  rintro e w2 ⟨rfl, hb2⟩
  have HB2 := Lib.hid (HB.out.trans (hb2.mono HB.out.size))
  clear hb2
  go_wp2_with fail
  go_ret
  exact ⟨rfl, HB2.out⟩
end Go.Proofs.YtgjknekoehfdfaaGreatDoor
namespace Go.Proofs.YtgjknekoehfdfaaGreatDoor
open Go.RowKit
set_option linter.unusedVariables false

theorem batch_lex {b : List Chg} (hb : ∀ c ∈ b, goodC c = true) (hr : RangeB b) (hl : (Lib.join (b.map chgT) [44, 32]).length ≤ 16384) :
    (lexR (Lib.join (b.map chgT) [44, 32])).e = 0 ∧ ∃ (l : List ChP) (N : Nat), batchT (lexR (Lib.join (b.map chgT) [44, 32])).ts = chkB l ∧ l.map (·.1) = b ∧ ∀ z ∈ l, ChgR N z := by
  obtain ⟨ts, l, c1, u, h1, h2, h3, h4⟩ := batch_reads hb hr
  have hs := lexR_short hl
  unfold LZ at h1
  have he : (lexR (Lib.join (b.map chgT) [44, 32])).e = 0 := by rw [hs, h1]
  have hts : (lexR (Lib.join (b.map chgT) [44, 32])).ts = ts := by rw [hs, h1]
  have hq := chgs_sure _ _ (lex_toksQ he (lex_ended he).1)
  refine ⟨he, l, (Lib.join (b.map chgT) [44, 32]).length, ?_, h4, ?_⟩
  · rw [hts]
    exact batchT_ok h2 h3
  · rw [hts, h2] at hq
    exact hq.1
theorem parseB_few {b : List Chg} (hb : ∀ c ∈ b, goodC c = true) (hr : RangeB b) (hl : (Lib.join (b.map chgT) [44, 32]).length ≤ 16384) (h : b.length ≤ 256) : parseB (Lib.join (b.map chgT) [44, 32]) = .ok b [] := by
  obtain ⟨he, l, N, h1, h2, _⟩ := batch_lex hb hr hl
  unfold parseB
  have hn : l.length = b.length := by rw [← h2, List.length_map]
  rw [if_pos he, h1, chkB_few (by omega), h2]
theorem parseB_many {b : List Chg} (hb : ∀ c ∈ b, goodC c = true) (hr : RangeB b) (hl : (Lib.join (b.map chgT) [44, 32]).length ≤ 16384) (h : 256 < b.length) : ∃ p, parseB (Lib.join (b.map chgT) [44, 32]) = .bad p 100 := by
  obtain ⟨he, l, N, h1, h2, h3⟩ := batch_lex hb hr hl
  unfold parseB
  have hn : l.length = b.length := by rw [← h2, List.length_map]
  rw [if_pos he, h1, chkB_many h3 (by omega)]
  exact ⟨_, rfl⟩
theorem parseB_long {s : List UInt8} (h : 16384 < s.length) : ∃ p, parseB s = .bad p 70 := by
  unfold parseB
  rw [lexR_long h]
  exact ⟨_, if_neg (by decide)⟩
/-- What is told of any line. -/
theorem parseB_sure (l : List UInt8) : match parseB l with
    | .bad a e => 0 ≤ a ∧ a ≤ l.length ∧ e ≠ 0
    | .ok b _ => b.length ≤ 256 ∧ ∀ c ∈ b, isNameB c.rel = true ∧ ∀ u ∈ c.row, validB u.k u.n u.t = true ∧ RangeV u := by
  unfold parseB
  by_cases he : (lexR l).e = 0
  · rw [if_pos he]
    exact batchT_sure (lex_toksQ he (lex_ended he).1)
  · rw [if_neg he]
    have := lex_placeQ l he
    exact ⟨this.1, this.2, he⟩
theorem joinC_len {b : List Chg} (hb : ∀ c ∈ b, goodC c = true) (hr : RangeB b) : (Lib.join (b.map chgT) [44, 32]).length ≤ 7821 * b.length := by
  have h1 := join_len (b := 7819) (b.map chgT) (fun x hx => by
    obtain ⟨c, hc, rfl⟩ := List.mem_map.1 hx
    exact chgT_size (hb c hc) (hr c hc))
  rw [List.length_map] at h1
  omega
def wideC (c : Chg) : Bool := decide (30 < c.row.length)
theorem wide_good {b : List Chg} (h : ∀ c ∈ b, isNameB c.rel = true ∧ ∀ u ∈ c.row, validB u.k u.n u.t = true ∧ RangeV u) (hw : b.any wideC = false) : ∀ c ∈ b, goodC c = true := by
  intro c hc
  have h1 := List.any_eq_false.1 hw c hc
  unfold wideC at h1
  simp only [decide_eq_true_eq, Nat.not_lt] at h1
  unfold goodC
  rw [(h c hc).1, all_rowB h1 (fun u hu => ((h c hc).2 u hu).1)]
  rfl
/-- Every thing that is read. -/
theorem more_allB {α : Type} {P : List Tok → PR α} (hP : Less P) {Q : α → Prop} {M : Nat} (hq : ∀ c x c', c.length ≤ M → P c = .ok x c' → Q x) : ∀ (f : Nat) (c : List Tok) (xs : List α) (c' : List Tok), c.length ≤ M → moreP P f c = .ok xs c' → ∀ x ∈ xs, Q x := by
  intro f
  induction f with
  | zero =>
    intro c xs c' _ h
    simp only [moreP, PR.ok.injEq] at h
    obtain ⟨rfl, _⟩ := h
    simp
  | succ f ih =>
    intro c xs c' hc h
    unfold moreP at h
    split at h
    · have hd : (c.drop 1).length ≤ M := by rw [List.length_drop]; omega
      cases h1 : P (c.drop 1) with
      | bad a e => rw [h1] at h; cases h
      | ok x c1 =>
        rw [h1] at h
        simp only at h
        have h2 := hP _ _ _ h1
        cases h3 : moreP P f c1 with
        | bad a e => rw [h3] at h; cases h
        | ok ys c2 =>
          rw [h3] at h
          simp only [PR.ok.injEq] at h
          obtain ⟨rfl, _⟩ := h
          intro y hy
          rcases List.mem_cons.1 hy with rfl | hy
          · exact hq _ _ _ hd h1
          · exact ih c1 ys c2 (by omega) h3 y hy
    · simp only [PR.ok.injEq] at h
      obtain ⟨rfl, _⟩ := h
      simp
theorem some_allB {α : Type} {P : List Tok → PR α} (hP : Less P) {Q : α → Prop} {M : Nat} (hq : ∀ c x c', c.length ≤ M → P c = .ok x c' → Q x) {c : List Tok} {xs : List α} {c' : List Tok} (hc : c.length ≤ M) (h : someP P c = .ok xs c') : ∀ x ∈ xs, Q x := by
  unfold someP at h
  cases h1 : P c with
  | bad a e => rw [h1] at h; cases h
  | ok x c1 =>
    rw [h1] at h
    simp only at h
    have h2 := hP _ _ _ h1
    cases h3 : moreP P c1.length c1 with
    | bad a e => rw [h3] at h; cases h
    | ok ys c2 =>
      rw [h3] at h
      simp only [PR.ok.injEq] at h
      obtain ⟨rfl, _⟩ := h
      intro y hy
      rcases List.mem_cons.1 hy with rfl | hy
      · exact hq _ _ _ hc h1
      · exact more_allB hP hq _ c1 ys c2 (by omega) h3 y hy
theorem parseB_rows {l : List UInt8} {b : List Chg} {c : List Tok} (h : parseB l = .ok b c) : ∀ x ∈ b, x.row.length ≤ 1000000 := by
  unfold parseB at h
  by_cases he : (lexR l).e = 0
  · rw [if_pos he] at h
    have hlen := (lex_ended he).2
    cases hc : chgsP (lexR l).ts with
    | bad a e => rw [batchT_bad1 hc] at h; cases h
    | ok zs c1 =>
      cases ht : tk 0 [] c1 with
      | bad a e => rw [batchT_bad2 hc ht] at h; cases h
      | ok u c2 =>
        rw [batchT_ok hc ht] at h
        have hb : zs.map (·.1) = b := by
          unfold chkB at h
          split at h
          · cases h
          · simp only [PR.ok.injEq] at h
            exact h.1
        have hz : ∀ z ∈ zs, z.1.row.length ≤ 1000000 := by
          unfold chgsP at hc
          split at hc
          · simp only [PR.ok.injEq] at hc
            rw [← hc.1]
            simp
          · refine some_allB (M := 100000) (Q := fun z : ChP => z.1.row.length ≤ 1000000) chg_less (fun d x d' hd hx => ?_) hlen hc
            cases e1 : tk 3 sgnX d with
            | bad a e => rw [chg_bad1 e1] at hx; cases hx
            | ok s d1 =>
              have g1 := tk_less _ _ _ _ _ e1
              cases e2 : tk 1 [] d1 with
              | bad a e => rw [chg_bad2 e1 e2] at hx; cases hx
              | ok t d2 =>
                have g2 := tk_less _ _ _ _ _ e2
                cases e3 : listP litP d2 with
                | bad a e => rw [chg_bad3 e1 e2 e3] at hx; cases hx
                | ok r d3 =>
                  rw [chg_ok e1 e2 e3] at hx
                  simp only [PR.ok.injEq] at hx
                  rw [← hx.1]
                  have := list_len lit_less e3
                  show r.length ≤ _
                  omega
        intro x hx
        rw [← hb] at hx
        obtain ⟨z, hz1, rfl⟩ := List.mem_map.1 hx
        exact hz z hz1
  · rw [if_neg he] at h
    cases h
end Go.Proofs.YtgjknekoehfdfaaGreatDoor
