/- The memory of ArenaOnce between two rounds. -/
import Derived.Test.YtppoakomeaamhaaOn1
namespace Go.Proofs.Ytppoakomeaamhaa
open Go.RowKit

/-- The script: n operations of four numbers each. -/
def Script (w : World) (sv : Value) (n : Nat) : Prop :=
  n ≤ 4398046511104 ∧ ∃ (ad : Option Addr) (cap : Nat), sv = .slice ad n cap ∧
    (n = 0 ∨ ∃ (b off : Nat) (f : Nat → Int × Int × Int × Int), ad = some ⟨b, off, none⟩ ∧ b < w.heap.size ∧ ∀ i, i < n →
      w.cell? ⟨b, off + i * 4, none⟩ = some (.int .i64 (f i).1) ∧ w.cell? ⟨b, off + i * 4 + 1, none⟩ = some (.int .i64 (f i).2.1) ∧
      w.cell? ⟨b, off + i * 4 + 2, none⟩ = some (.int .i64 (f i).2.2.1) ∧ w.cell? ⟨b, off + i * 4 + 3, none⟩ = some (.int .i64 (f i).2.2.2))

def rc (r : Int × Int) : List Value := [.int .i64 r.1, .int .i64 r.2]
def lc (k : Nat) : Value := .int .i64 (k : Int)

theorem rc_len (R : List (Int × Int)) : (R.flatMap rc).length = R.length * 2 := by
  induction R with
  | nil => rfl
  | cons a l ih => simp [List.flatMap_cons, rc, ih]; omega
theorem rc_at (R : List (Int × Int)) (i : Nat) (r : Int × Int) (h : R[i]? = some r) : (R.flatMap rc)[i * 2]? = some (.int .i64 r.1) ∧ (R.flatMap rc)[i * 2 + 1]? = some (.int .i64 r.2) := by
  induction R generalizing i with
  | nil => simp at h
  | cons a l ih =>
    cases i with
    | zero => simp at h; subst h; simp [List.flatMap_cons, rc]
    | succ i =>
      have := ih i (by simpa using h)
      simp only [List.flatMap_cons, rc]
      have e1 : (i + 1) * 2 = i * 2 + 2 := by omega
      rw [e1]
      simpa using this
theorem rc_snoc (R : List (Int × Int)) (r : Int × Int) : (R ++ [r]).flatMap rc = R.flatMap rc ++ [.int .i64 r.1, .int .i64 r.2] := by simp [List.flatMap_append, rc]
theorem lc_snoc (L : List Nat) (k : Nat) : (L ++ [k]).map lc = L.map lc ++ [.int .i64 (k : Int)] := by simp [lc]

/-- A row that is not empty lies somewhere. -/
theorem own_at {w : World} {base : Nat} {e : TypeId} {size : Nat} {v : Value} {n : Nat} {xs : List Value} (h : w.ownsRow base e size v n xs) (hn : 0 < n) : ∃ g cap, v = .slice (some ⟨g, 0, none⟩) n cap ∧ g < w.heap.size ∧ n ≤ cap ∧ cap ≤ maxLen := by
  rcases h.2 with ⟨_, h0⟩ | ⟨g, cap, cur, rfl, _, hg, hnc, hcm, _⟩
  · omega
  · exact ⟨g, cap, rfl, (Array.getElem?_eq_some_iff.1 hg).1, hnc, hcm⟩
theorem own_len {w : World} {base : Nat} {e : TypeId} {size : Nat} {v : Value} {n : Nat} {xs : List Value} (h : w.ownsRow base e size v n xs) : ∃ (a : Option Addr) (cap : Nat), v = .slice a n cap ∧ n ≤ maxLen := by
  rcases h.2 with ⟨rfl, rfl⟩ | ⟨g, cap, cur, rfl, _, hg, hnc, hcm, _⟩
  · exact ⟨none, 0, rfl, Nat.zero_le _⟩
  · exact ⟨_, cap, rfl, Nat.le_trans hnc hcm⟩

/-- Many cells stored. -/
def setMany (xs : List Value) : Nat → List Value → List Value
  | _, [] => xs
  | o, v :: r => setMany (xs.set o v) (o + 1) r
theorem setMany_eq : ∀ (vs : List Value) (xs : List Value) (o : Nat), o + vs.length ≤ xs.length → setMany xs o vs = xs.take o ++ vs ++ xs.drop (o + vs.length) := by
  intro vs
  induction vs with
  | nil => intro xs o h; simp [setMany]
  | cons v r ih =>
    intro xs o h
    simp at h
    have hl : o < xs.length := by omega
    rw [setMany, ih _ _ (by simp; omega), List.set_eq_take_append_cons_drop, if_pos hl]
    have e1 : (xs.take o ++ v :: xs.drop (o + 1)).take (o + 1) = xs.take o ++ [v] := by
      rw [List.take_append, List.take_of_length_le (by simp; omega)]
      simp [show o + 1 - min o xs.length = 1 by omega]
    have e2 : (xs.take o ++ v :: xs.drop (o + 1)).drop (o + 1 + r.length) = xs.drop (o + (r.length + 1)) := by
      rw [List.drop_append, List.drop_eq_nil_of_le (by simp; omega)]
      simp only [List.length_take, List.nil_append]
      rw [show o + 1 + r.length - min o xs.length = r.length + 1 by omega]
      rw [List.drop_succ_cons, List.drop_drop]
      congr 1
      omega
    rw [e1, e2]
    simp
theorem own_setCells {base : Nat} {e : TypeId} {size g n cap : Nat} : ∀ (vs : List Value) (o : Nat) (w : World) (xs : List Value), w.ownsRow base e size (.slice (some ⟨g, 0, none⟩) n cap) n xs → (w.setCells g o vs).ownsRow base e size (.slice (some ⟨g, 0, none⟩) n cap) n (setMany xs o vs) := by
  intro vs
  induction vs with
  | nil => intro o w xs h; exact h
  | cons v r ih => intro o w xs h; exact ih (o + 1) _ _ (h.stored o v).1
theorem Mod.setCells {F : Nat → Prop} {a : World} {g : Nat} (hg : g < a.heap.size → F g) : ∀ (vs : List Value) (o : Nat) (w : World), Mod F a w → Mod F a (w.setCells g o vs) := by
  intro vs
  induction vs with
  | nil => intro o w h; exact h
  | cons v r ih => intro o w h; exact ih (o + 1) _ (h.setCell (p := ⟨g, o, none⟩) hg v)
theorem size_setCells (g : Nat) : ∀ (vs : List Value) (o : Nat) (w : World), (w.setCells g o vs).heap.size = w.heap.size := by
  intro vs
  induction vs with
  | nil => intro o w; rfl
  | cons v r ih => intro o w; rw [World.setCells, ih]; simp
/-- The row's first part alone. -/
theorem own_cut {w : World} {base : Nat} {e : TypeId} {size g n cap : Nat} {xs : List Value} (h : w.ownsRow base e size (.slice (some ⟨g, 0, none⟩) n cap) n xs) {m : Nat} (hm : m ≤ n) : w.ownsRow base e size (.slice (some ⟨g, 0, none⟩) m cap) m (xs.take (m * size)) := by
  have hl : m * size ≤ n * size := Nat.mul_le_mul_right _ hm
  rcases h.2 with ⟨h', _⟩ | ⟨g', cap', cur, h', hb, hg, hnc, hcm, hcs, htake⟩
  · simp at h'
  · simp only [Value.slice.injEq, Option.some.injEq, Addr.mk.injEq, and_true, true_and] at h'
    obtain ⟨rfl, rfl⟩ := h'
    refine ⟨by rw [List.length_take, h.1]; omega, .inr ⟨g, cap, cur, rfl, hb, hg, Nat.le_trans hm hnc, hcm, hcs, ?_⟩⟩
    rw [← htake, List.take_take, Nat.min_eq_left hl]

/-- What is moved where place k is struck. -/
def movedL (L : List Nat) (k : Nat) : List Value := (L.drop (k + 1)).map lc
theorem movedL_len (L : List Nat) (k : Nat) : (movedL L k).length = L.length - (k + 1) := by simp [movedL]
/-- The row behind the strike. -/
theorem own_struck {w : World} {base : Nat} {e : TypeId} {g cap k : Nat} {L : List Nat} (h : w.ownsRow base e 1 (.slice (some ⟨g, 0, none⟩) L.length cap) L.length (L.map lc)) (hk : k < L.length) :
    (w.setCells g k (movedL L k)).ownsRow base e 1 (.slice (some ⟨g, 0, none⟩) (k + (L.length - (k + 1))) cap) (L.eraseIdx k).length ((L.eraseIdx k).map lc) := by
  have h1 := own_cut (own_setCells (movedL L k) k w _ h) (m := k + (L.length - (k + 1))) (by omega)
  have hl : (L.eraseIdx k).length = k + (L.length - (k + 1)) := by rw [List.length_eraseIdx_of_lt hk]; omega
  rw [hl]
  have e : (setMany (L.map lc) k (movedL L k)).take ((k + (L.length - (k + 1))) * 1) = (L.eraseIdx k).map lc := by
    have hml := movedL_len L k
    rw [setMany_eq _ _ _ (by simp [movedL_len]; omega), List.take_append, List.take_of_length_le (by simp [movedL_len]; omega), List.eraseIdx_eq_take_drop_succ, List.map_append, List.map_take, movedL]
    have : (k + (L.length - (k + 1))) * 1 - (List.take k (List.map lc L) ++ List.map lc (List.drop (k + 1) L)).length = 0 := by simp; omega
    rw [this]
    simp
  rw [← e]
  exact h1

/-- The law's own memory: the arena at p, the references told, those alive. -/
structure OMem (w wr : World) (p : Nat) (most gens : Int) (sl : List Slot) (fr : List Int) (live : Int) (vs vf vr vl : Value) (R : List (Int × Int)) (L : List Nat) : Prop where
  rep : ARep wr 61 65 p most gens sl fr live vs vf
  refs : wr.ownsRow w.heap.size 40 2 vr R.length (R.flatMap rc)
  lives : wr.ownsRow w.heap.size 3 1 vl L.length (L.map lc)
  sep : ∀ k, vl.ownBlock = some k → ¬ foot p vs vf k
  low : ∀ k, foot p vs vf k → w.heap.size ≤ k
  bel : Below w.heap.size w wr

section
variable {w wr wr' : World} {p : Nat} {most gens : Int} {sl sl' : List Slot} {fr fr' : List Int} {live live' : Int} {vs vf vs' vf' vr vl vr' vl' : Value} {R R' : List (Int × Int)} {L L' : List Nat}

theorem OMem.sepR (h : OMem w wr p most gens sl fr live vs vf vr vl R L) : ∀ k, vr.ownBlock = some k → ¬ foot p vs vf k ∧ vl.ownBlock ≠ some k := by
  intro k hk
  refine ⟨?_, own_own_ne h.refs h.lives (by decide) hk⟩
  rintro (rfl | h1 | h1)
  · exact own_blk_ne h.refs h.rep.blk (by decide) hk
  · exact own_own_ne h.refs h.rep.slots (by decide) hk h1
  · exact own_own_ne h.refs h.rep.frees (by decide) hk h1

/-- Behind a step that turns nothing old. -/
theorem OMem.keep (h : OMem w wr p most gens sl fr live vs vf vr vl R L) (hb : Below wr.heap.size wr wr') : OMem w wr' p most gens sl fr live vs vf vr vl R L :=
  have hm : Mod (fun _ => False) wr wr' := Mod.ofBelow hb
  ⟨h.rep.keep hb, hm.ownsRow h.refs (fun _ _ f => f), hm.ownsRow h.lives (fun _ _ f => f), h.sep, h.low, h.bel.trans (hb.mono h.bel.size)⟩

/-- Behind a call of the arena. -/
theorem OMem.step (h : OMem w wr p most gens sl fr live vs vf vr vl R L) (hn : ANow wr wr' 61 65 p most gens sl' fr' live' vs vf vs' vf') : OMem w wr' p most gens sl' fr' live' vs' vf' vr vl R L := by
  refine ⟨hn.rep, hn.mod.ownsRow h.refs (fun k hk => (h.sepR k hk).1), hn.mod.ownsRow h.lives h.sep, ?_, ?_, h.bel.trans (hn.mod.below h.bel.size h.low)⟩
  · intro k hk hf
    exact h.sep k hk (hn.foots k hf (h.lives.lt k hk).2)
  · intro k hf
    rcases Nat.lt_or_ge k wr.heap.size with hlt | hge
    · exact h.low k (hn.foots k hf hlt)
    · exact Nat.le_trans h.bel.size hge

/-- Behind an append to the references. -/
theorem OMem.told (h : OMem w wr p most gens sl fr live vs vf vr vl R L) (hg : wr.grownBy wr' vr.ownBlock) (hown : wr'.ownsRow w.heap.size 40 2 vr' R'.length (R'.flatMap rc)) : OMem w wr' p most gens sl fr live vs vf vr' vl R' L := by
  have hm : Mod (fun k => vr.ownBlock = some k) wr wr' := (Mod.refl _ _).grown hg (fun k hk _ => hk)
  refine ⟨h.rep.mod hm (fun k hf hk => (h.sepR k hk).1 hf), hown, hm.ownsRow h.lives (fun k hk hk2 => (h.sepR k hk2).2 hk), h.sep, h.low, h.bel.trans (hm.below h.bel.size (fun k hk => (h.refs.lt k hk).1))⟩

/-- Behind an append to the living, or a strike. -/
theorem OMem.lived (h : OMem w wr p most gens sl fr live vs vf vr vl R L) (hm : Mod (fun k => vl.ownBlock = some k) wr wr') (hown : wr'.ownsRow w.heap.size 3 1 vl' L'.length (L'.map lc)) (hat : vl'.ownBlock = vl.ownBlock ∨ ∀ k, vl'.ownBlock = some k → wr.heap.size ≤ k) : OMem w wr' p most gens sl fr live vs vf vr vl' R L' := by
  refine ⟨h.rep.mod hm (fun k hf hk => h.sep k hk hf), hm.ownsRow h.refs (fun k hk => (h.sepR k hk).2), hown, ?_, h.low, h.bel.trans (hm.below h.bel.size (fun k hk => (h.lives.lt k hk).1))⟩
  intro k hk hf
  rcases hat with e | e
  · exact h.sep k (by rw [← e]; exact hk) hf
  · have := h.rep.footlt hf
    have := e k hk
    omega
end
end Go.Proofs.Ytppoakomeaamhaa
