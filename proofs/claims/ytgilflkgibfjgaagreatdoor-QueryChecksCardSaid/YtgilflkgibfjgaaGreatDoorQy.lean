/- query.Check, plainly: the kinds of the variables, told as they come. query.checkAtom, walked. query.Check, walked. osierref09.Check, walked. A list of relations as an argument, its kinds within an integer's range. QueryChecks, walked. -/
import Derived.Test.YtgilflkgibfjgaaGreatDoorNmZ
import Derived.Test.YtgilflkgibfjgaaGreatDoorRw
import Derived.Test.YtgilflkgibfjgaaGreatDoorJy
import Derived.Test.YtgilflkgibfjgaaGreatDoorCi
import Derived.Test.YtgilflkgibfjgaaGreatDoorGb
import Derived.Test.YtgilflkgibfjgaaGreatDoorQs1Z
import Derived.Test.YtgilflkgibfjgaaGreatDoorQr0Z
import Derived.Test.YtgilflkgibfjgaaGreatDoorCk
import Derived.Test.YtgilflkgibfjgaaGreatDoorGg
import Derived.Test.YtgilflkgibfjgaaGreatDoorRa
import Derived.Test.YtgilflkgibfjgaaGreatDoorRo9Z
import Derived.Test.YtgilflkgibfjgaaGreatDoorCqZ
import Derived.Test.YtgilflkgibfjgaaGreatDoorCy
import Derived.Test.YtgilflkgibfjgaaGreatDoorGz
import Derived.Maps.OwnOps
import Derived.Maps.OwnSet
import Derived.Maps.Own
import Derived.Deep.RegionLaw
import Derived.BigQuiet
namespace Go.Proofs.YtgilflkgibfjgaaGreatDoor
open Go.RowKit
set_option linter.unusedVariables false

/-- The variables with their kinds, in the order in which they came. -/
abbrev KM := List (List UInt8 × Int)
def kmL (M : KM) : List (List UInt8) := M.map (·.1)
def kmF (M : KM) (s : List UInt8) : Int := (M.lookup s).getD 0
def ckT (M : KM) (t : Trm) (k : Int) : Int × KM :=
  if t.x = [] then (if t.k = k then 0 else 95, M)
  else if t.x ∈ kmL M then (if kmF M t.x = k then 0 else 96, M)
  else (0, M ++ [(t.x, k)])
def ckTs : KM → List (Trm × Int) → Int × KM
  | M, [] => (0, M)
  | M, p :: r => if (ckT M p.1 p.2).1 = 0 then ckTs (ckT M p.1 p.2).2 r else ((ckT M p.1 p.2).1, M)
def relOf (d : List Rln) (x : List UInt8) : Option Rln := if plI d x < 0 then none else d[(plI d x).toNat]?
def ckA (d : List Rln) (M : KM) (a : Atm) : Int × KM := match relOf d a.rel with
  | none => (86, M)
  | some r => if r.cols.length = a.ts.length then ckTs M (a.ts.zip (r.cols.map (·.k))) else (94, M)
def ckL (d : List Rln) : KM → List Atm → Nat → Int × Int
  | _, [], _ => (0, 0)
  | M, a :: l, i => if (ckA d M a).1 = 0 then ckL d (ckA d M a).2 l (i + 1) else (i, (ckA d M a).1)
def ckQ (q : Qry) (d : List Rln) : Int × Int := if chkQ q = 0 then ckL d [] q.atoms 0 else (0, chkQ q)

theorem ckT_const {M : KM} {t : Trm} {k : Int} (h : t.x = []) : ckT M t k = (if t.k = k then 0 else 95, M) := by
  unfold ckT
  rw [if_pos h]
theorem ckT_old {M : KM} {t : Trm} {k : Int} (h : t.x ≠ []) (hm : t.x ∈ kmL M) : ckT M t k = (if kmF M t.x = k then 0 else 96, M) := by
  unfold ckT
  rw [if_neg h, if_pos hm]
theorem ckT_new {M : KM} {t : Trm} {k : Int} (h : t.x ≠ []) (hm : t.x ∉ kmL M) : ckT M t k = (0, M ++ [(t.x, k)]) := by
  unfold ckT
  rw [if_neg h, if_neg hm]
theorem ckTs_step {M : KM} {l : List (Trm × Int)} {j : Nat} {p : Trm × Int} (h : l[j]? = some p) (h0 : (ckT M p.1 p.2).1 = 0) : ckTs M (l.drop j) = ckTs (ckT M p.1 p.2).2 (l.drop (j + 1)) := by
  rw [List.drop_eq_getElem_cons (List.getElem?_eq_some_iff.1 h).1, (List.getElem?_eq_some_iff.1 h).2]
  conv => lhs; unfold ckTs
  rw [if_pos h0]
theorem ckTs_stop {M : KM} {l : List (Trm × Int)} {j : Nat} {p : Trm × Int} (h : l[j]? = some p) (h0 : (ckT M p.1 p.2).1 ≠ 0) : (ckTs M (l.drop j)).1 = (ckT M p.1 p.2).1 := by
  rw [List.drop_eq_getElem_cons (List.getElem?_eq_some_iff.1 h).1, (List.getElem?_eq_some_iff.1 h).2]
  conv => lhs; unfold ckTs
  rw [if_neg h0]
theorem ckTs_end {M : KM} {l : List (Trm × Int)} {j : Nat} (h : l.length ≤ j) : ckTs M (l.drop j) = (0, M) := by
  rw [List.drop_eq_nil_of_le h]
  rfl
theorem ckT_len (M : KM) (t : Trm) (k : Int) : (ckT M t k).2.length ≤ M.length + 1 := by
  unfold ckT
  split
  · simp
  · split
    · simp
    · simp
theorem ckTs_len : ∀ (l : List (Trm × Int)) (M : KM), (ckTs M l).2.length ≤ M.length + l.length
  | [], M => by simp [ckTs]
  | p :: r, M => by
    unfold ckTs
    split
    · have h1 := ckTs_len r (ckT M p.1 p.2).2
      have h2 := ckT_len M p.1 p.2
      simp only [List.length_cons]
      omega
    · simp only [List.length_cons]
      omega
theorem ckA_len (d : List Rln) (M : KM) (a : Atm) : (ckA d M a).2.length ≤ M.length + a.ts.length := by
  unfold ckA
  split
  · simp
  · split
    · have h1 := ckTs_len (a.ts.zip (‹Rln›.cols.map (·.k))) M
      rw [List.length_zip] at h1
      have h2 := Nat.min_le_left a.ts.length (‹Rln›.cols.map (·.k)).length
      omega
    · simp
theorem ckL_step {d : List Rln} {M : KM} {l : List Atm} {j i : Nat} {a : Atm} (h : l[j]? = some a) (h0 : (ckA d M a).1 = 0) : ckL d M (l.drop j) i = ckL d (ckA d M a).2 (l.drop (j + 1)) (i + 1) := by
  rw [List.drop_eq_getElem_cons (List.getElem?_eq_some_iff.1 h).1, (List.getElem?_eq_some_iff.1 h).2]
  conv => lhs; unfold ckL
  rw [if_pos h0]
theorem ckL_stop {d : List Rln} {M : KM} {l : List Atm} {j i : Nat} {a : Atm} (h : l[j]? = some a) (h0 : (ckA d M a).1 ≠ 0) : ckL d M (l.drop j) i = ((i : Int), (ckA d M a).1) := by
  rw [List.drop_eq_getElem_cons (List.getElem?_eq_some_iff.1 h).1, (List.getElem?_eq_some_iff.1 h).2]
  conv => lhs; unfold ckL
  rw [if_neg h0]
theorem ckL_end {d : List Rln} {M : KM} {l : List Atm} {j i : Nat} (h : l.length ≤ j) : ckL d M (l.drop j) i = (0, 0) := by
  rw [List.drop_eq_nil_of_le h]
  rfl
theorem ckA_none {d : List Rln} {M : KM} {a : Atm} (h : plI d a.rel < 0) : ckA d M a = (86, M) := by
  have : relOf d a.rel = none := by unfold relOf; rw [if_pos h]
  unfold ckA
  rw [this]
theorem relOf_some {d : List Rln} {x : List UInt8} {k : Nat} {r : Rln} (h : plI d x = k) (hr : d[k]? = some r) : relOf d x = some r := by
  unfold relOf
  rw [if_neg (by omega), h]
  exact hr
theorem ckA_wide {d : List Rln} {M : KM} {a : Atm} {k : Nat} {r : Rln} (h : plI d a.rel = k) (hr : d[k]? = some r) (hl : r.cols.length ≠ a.ts.length) : ckA d M a = (94, M) := by
  unfold ckA
  rw [relOf_some h hr]
  exact if_neg hl
theorem ckA_some {d : List Rln} {M : KM} {a : Atm} {k : Nat} {r : Rln} (h : plI d a.rel = k) (hr : d[k]? = some r) (hl : r.cols.length = a.ts.length) : ckA d M a = ckTs M ((a.ts.zip (r.cols.map (·.k))).drop 0) := by
  unfold ckA
  rw [relOf_some h hr]
  exact if_pos hl
theorem plQ_range (d : List Rln) (x : List UInt8) : plI d x = -1 ∨ ∃ (k : Nat) (r : Rln), plI d x = k ∧ d[k]? = some r := by
  unfold plI idxI
  split
  · rename_i h
    have hl := List.idxOf_lt_length_of_mem h
    rw [List.length_map] at hl
    exact .inr ⟨_, d[_]'hl, rfl, List.getElem?_eq_getElem hl⟩
  · exact .inl rfl
theorem kmF_new {M : KM} {s : List UInt8} {k : Int} (h : s ∉ kmL M) : kmF (M ++ [(s, k)]) s = k := by
  unfold kmF
  induction M with
  | nil => simp
  | cons p M ih =>
    simp only [kmL, List.map_cons, List.mem_cons, not_or] at h
    have h1 : (s == p.1) = false := by simpa using h.1
    rw [List.cons_append, List.lookup_cons, h1]
    exact ih h.2
theorem kmF_keep {M : KM} {s t : List UInt8} {k : Int} (h : t ∈ kmL M) : kmF (M ++ [(s, k)]) t = kmF M t := by
  unfold kmF
  induction M with
  | nil => simp [kmL] at h
  | cons p M ih =>
    rw [List.cons_append, List.lookup_cons, List.lookup_cons]
    by_cases h1 : t = p.1
    · have h2 : (t == p.1) = true := by simpa using h1
      rw [h2]
    · have h2 : (t == p.1) = false := by simpa using h1
      rw [h2]
      simp only [kmL, List.map_cons, List.mem_cons] at h
      exact ih (h.resolve_left h1)
theorem kmL_snoc (M : KM) (s : List UInt8) (k : Int) : kmL (M ++ [(s, k)]) = kmL M ++ [s] := by simp [kmL]
theorem kmL_len (M : KM) : (kmL M).length = M.length := by simp [kmL]
/-- What stands at the place of a variable. -/
theorem kmF_at {M : KM} {s : List UInt8} (h : s ∈ kmL M) : (M.map (·.2))[(kmL M).idxOf s]? = some (kmF M s) := by
  unfold kmF
  induction M with
  | nil => simp [kmL] at h
  | cons p M ih =>
    by_cases h1 : s = p.1
    · have h2 : (s == p.1) = true := by simpa using h1
      have h3 : (p.1 == s) = true := by simpa using h1.symm
      rw [List.lookup_cons, h2]
      have : (kmL (p :: M)).idxOf s = 0 := by
        show List.idxOf s (p.1 :: kmL M) = 0
        rw [List.idxOf_cons, h3]
        rfl
      rw [this]
      rfl
    · have h2 : (s == p.1) = false := by simpa using h1
      have h3 : (p.1 == s) = false := by simpa using Ne.symm h1
      rw [List.lookup_cons, h2]
      have : (kmL (p :: M)).idxOf s = (kmL M).idxOf s + 1 := by
        show List.idxOf s (p.1 :: kmL M) = _
        rw [List.idxOf_cons, h3]
        rfl
      rw [this]
      simp only [kmL, List.map_cons, List.mem_cons] at h
      exact ih (h.resolve_left h1)
end Go.Proofs.YtgilflkgibfjgaaGreatDoor
namespace Go.Proofs.YtgilflkgibfjgaaGreatDoor
open Go.RowKit Go.Maps
set_option linter.unusedVariables false

theorem zeroK (w : World) : (zeroValue 63).run Tryz.prog w = .ok (.int .i64 0) w := by kernel_rfl
/-- 'm[k] = v' as one step of a region that draws its order. -/
theorem step_mapUpdate_own {H : Type} {P : Program} {ops : Array Oper} {o : Oper} {a : Act} {w : World} {Kk : Act → World → Prop} {Q : Exit → Act → World → Prop} {E : Prop}
    (hg : o.guard = none) (m x v : Operand) (t : TypeId) (hop : o.op = Op.mapUpdate t m x v)
    (k e : TypeId) (K : Keyed P k) (ht : P.underlying t = some (.map k e)) (R : Value → Option (DataW H × List MemPlace)) (b n : Nat) (D : DataW H)
    (hm : a.eval m = .map (some b)) (hown : w.ownsMap P k R b n D) (hn : n < maxLen) (key val : Value) (kl : Lit) (hx : a.eval x = key) (hv : a.eval v = val) (hkey : keyOf P k key = some kl)
    (d : DataW H) (ps : List MemPlace) (hval : R val = some (d, ps))
    (hK : ∀ w', w'.ownsMap P k R b (n + 1) (D.put kl d) → w.grownBy w' (some b) → Kk (a.put o.dst undef) w') :
    if Region.wanted o (yielded ops a.tmps) = true then Oper.wp P o a w Kk Q else E := by
  have hw : Region.wanted o (yielded ops a.tmps) = true := by simp [Region.wanted, hg]
  rw [if_pos hw]
  obtain ⟨w', hrun, r1, r2⟩ := hown.update K ht hn hkey hval
  unfold Oper.wp
  simp [execOp, hop, hm, hx, hv, hrun, Result.andThen]
  exact hK w' r1 r2

/-- Is this the relation's name? -/
def nmQ (nm : List UInt8) (x : List Value) : Bool := match x with
  | .string s :: _ => s.data.toList == nm
  | _ => false
set_option maxHeartbeats 2000000 in
set_option maxRecDepth 100000 in
theorem caClo_any (W : World) (bx : Nat) (nm : List UInt8) (rv : Value) (s : ByteArray) (cv : Value) (hx : Blk W bx 93 #[.string ⟨nm.toArray⟩, rv]) :
    Calls Tryz.prog 94 #[.agg #[.string s, cv], .pointer (some ⟨bx, 0, none⟩)] W fun e w' => e = .returned (.bool (s.data.toList == nm)) ∧ Below W.heap.size W w' := by
  have x1 := hx.cell 0
  have xl := hx.lt
  simp only [List.getElem?_toArray, List.getElem?_cons_zero] at x1
  have hb0 : Below W.heap.size W (W.alloc (.cells #[.string s, cv] 99)) := balloc (Below.refl _ _) _
  have HB0 := Lib.hid hb0
  obtain ⟨l⟩ := s
  obtain ⟨l⟩ := l
  have hsd : (⟨⟨l⟩⟩ : ByteArray).data.toList = l := rfl
  rw [hsd]
  have HX := Lib.hid hx
  clear hx hb0 hsd
  go_enter Tryz.func94, Tryz.ntmps94
  go_wp2_with fail
  go_ret
  exact ⟨by first | rfl | simp, HB0.out⟩
theorem idx_relQ {w : World} {nm : List UInt8} : ∀ {rows : List (List Value)} {d : List Rln}, All2 (RelC w) rows d → rows.findIdx? (nmQ nm) = (d.map (·.name)).findIdx? (· == nm)
  | [], [], _ => rfl
  | c :: rows, r :: d, h => by
    obtain ⟨cv, rfl, _⟩ := h.1
    rw [List.map_cons, List.findIdx?_cons, List.findIdx?_cons, idx_relQ h.2]
    simp [nmQ]
  | [], _ :: _, h => h.elim
  | _ :: _, [], h => h.elim
theorem idxI_findQ (x : List UInt8) : ∀ l : List (List UInt8), (match l.findIdx? (· == x) with | some i => (i : Int) | none => -1) = idxI l x
  | [] => by simp [idxI]
  | a :: l => by
    have ih := idxI_findQ x l
    unfold idxI at ih ⊢
    rw [List.findIdx?_cons]
    by_cases h : a = x
    · subst h
      simp
    · have hb : (a == x) = false := by simpa using h
      have hx : (x ∈ a :: l) = (x ∈ l) := by simp [Ne.symm h]
      have hi : List.idxOf x (a :: l) = List.idxOf x l + 1 := by rw [List.idxOf_cons, hb]; rfl
      rw [hb, hi]
      simp only [Bool.false_eq_true, if_false, hx]
      cases hf : l.findIdx? (· == x) with
      | none =>
        rw [hf] at ih
        have ih' : (-1 : Int) = if x ∈ l then (List.idxOf x l : Int) else -1 := ih
        by_cases hm : x ∈ l
        · rw [if_pos hm] at ih'
          omega
        · rw [if_neg hm]
          rfl
      | some i =>
        rw [hf] at ih
        have ih' : (i : Int) = if x ∈ l then (List.idxOf x l : Int) else -1 := ih
        by_cases hm : x ∈ l
        · rw [if_pos hm] at ih' ⊢
          show ((i + 1 : Nat) : Int) = _
          omega
        · rw [if_neg hm] at ih'
          omega
theorem idxP_relQ {w : World} {nm : List UInt8} {rows : List (List Value)} {d : List Rln} (h : All2 (RelC w) rows d) : idxP (nmQ nm) rows = plI d nm := by
  unfold idxP plI
  rw [idx_relQ h]
  exact idxI_findQ nm _
/-- Where the relation of this name stands: slices.IndexFunc over the closure. -/
theorem placeQ_any (W : World) (v : Value) (d : List Rln) (h : RelsAt W v d) (bx : Nat) (nm : List UInt8) (rv : Value) (hx : Blk W bx 93 #[.string ⟨nm.toArray⟩, rv]) :
    Calls Tryz.prog 93 #[v, .func (.func 94) #[] #[.pointer (some ⟨bx, 0, none⟩)]] W fun e w' => e = .returned (.int .i64 (plI d nm)) ∧ Below W.heap.size W w' := by
  obtain ⟨rows, h1, h2⟩ := h
  have hix := indexFunc_Rel 94 #[.pointer (some ⟨bx, 0, none⟩)] (enters_of Tryz.func94 (by kernel_rfl) rfl) (nmQ nm) W v rows h1 (fun x hx => by
    obtain ⟨r, _, cv, rfl, _⟩ := all2_mem h2 x hx
    rfl) (fun W' x hW hxm => by
    obtain ⟨r, _, cv, rfl, _⟩ := all2_mem h2 x hxm
    exact caClo_any W' bx nm rv ⟨r.name.toArray⟩ cv (hx.below hW hx.lt))
  rw [idxP_relQ h2] at hix
  exact hix

/-- A kind that an integer holds. -/
def RangeK (k : Int) : Prop := -9223372036854775808 ≤ k ∧ k ≤ 9223372036854775807
/-- Block b is a map that tells these kinds; n bounds its entries. -/
def KMap (w : World) (b : Nat) (M : KM) (n : Nat) : Prop := ∃ D : DataW Unit, w.ownsMap Tryz.prog 9 (plainElem Tryz.prog 63) b n D ∧ DMap D (kmL M) (kmF M)
theorem KMap.lt {w : World} {b : Nat} {M : KM} {n : Nat} (h : KMap w b M n) : b < w.heap.size := by
  obtain ⟨D, h1, _⟩ := h
  exact h1.lt
theorem KMap.keep {w w' : World} {b : Nat} {M : KM} {n : Nat} (h : KMap w b M n) (hb : w'.heap[b]? = w.heap[b]?) : KMap w' b M n := by
  obtain ⟨D, ⟨es, clock, h1, h2⟩, h3⟩ := h
  exact ⟨D, ⟨es, clock, by rw [hb, h1], h2⟩, h3⟩
theorem KMap.below {w w' : World} {b : Nat} {M : KM} {n B : Nat} (h : KMap w b M n) (hb : Below B w w') (hB : b < B) : KMap w' b M n := h.keep (hb.block b hB)
theorem KMap.made (w : World) : KMap (w.alloc (.map #[] 0)) w.heap.size [] 0 := ⟨.map [], World.ownsMap_made _ _ _ _, DMap.empty _⟩
/-- What checkAtom leaves. -/
def CkAP (d : List Rln) (M : KM) (a : Atm) (b n : Nat) (w : World) (e : Ending) (w' : World) : Prop :=
  e = .returned (.int .i64 (ckA d M a).1) ∧ ((ckA d M a).1 = 0 → ∃ n', n' ≤ n + 5 ∧ KMap w' b (ckA d M a).2 n') ∧ Mod (fun k => k = b) w w'
theorem zip_kinds {ts : List Trm} {cols : List Col} {j : Nat} {t : Trm} {c : Col} (ht : ts[j]? = some t) (hc : cols[j]? = some c) : (ts.zip (cols.map (·.k)))[j]? = some (t, c.k) := by
  rw [List.getElem?_zip_eq_some]
  exact ⟨ht, by rw [List.getElem?_map, hc]; rfl⟩

set_option maxHeartbeats 16000000 in
set_option maxRecDepth 100000 in
theorem checkAtom_any (w0 w : World) (h0 : Below w0.heap.size w0 w) (tv rv : Value) (a : Atm) (d : List Rln) (b n0 : Nat) (M : KM) (hwb : w0.heap.size ≤ b) (htv : RowAt w0 tv 4 (a.ts.map Trm.cells)) (hn5 : a.ts.length ≤ 5) (hs : ∀ t ∈ a.ts, t.x.length ≤ 140737488355328) (hd : RelsAt w0 rv d) (hk : ∀ r ∈ d, ∀ c ∈ r.cols, RangeK c.k)
    (hm : KMap w b M n0) (hM : n0 ≤ 1000) :
    Calls Tryz.prog 48 #[.agg #[.string ⟨a.rel.toArray⟩, tv], rv, .map (some b)] w (CkAP d M a b n0 w) := by
  have hnot : ∀ (x : Bool) (w : World), (Op.unary .not (.bool x)).run Tryz.prog w = .ok (.bool (!x)) w := fun _ _ => rfl
  obtain ⟨ta, tc, rfl, htn, htm⟩ := htv.form
  obtain ⟨ra, rc, rfl, hrn, hrm⟩ := hd.form
  unfold maxLen at htm hrm
  rw [List.length_map] at *
  have hbl := hm.lt
  obtain ⟨W0, hW0⟩ : ∃ W0, w.alloc (.cells #[.string ⟨a.rel.toArray⟩, .slice ta a.ts.length tc] 93) = W0 := ⟨_, rfl⟩
  have hb0 : Below w.heap.size w W0 := by rw [← hW0]; exact balloc (Below.refl _ _) _
  have hbx : Blk W0 w.heap.size 93 #[.string ⟨a.rel.toArray⟩, .slice ta a.ts.length tc] := by rw [← hW0]; exact Blk.new _ _ _
  have h00 : Below w0.heap.size w0 W0 := h0.trans (hb0.mono h0.size)
  have HPL := Lib.hid (placeQ_any W0 (.slice ra d.length rc) d (hd.keep h00) w.heap.size a.rel (.slice ta a.ts.length tc) hbx)
  have HTV := Lib.hid htv
  have HD := Lib.hid hd
  have HBX := Lib.hid hbx
  have HB0 := Lib.hid hb0
  have H00 := Lib.hid h00
  have HM0 := Lib.hid (hm.below hb0 hbl)
  have HW0 := Lib.hid hW0
  have HS := Lib.hid hs
  have HK := Lib.hid hk
  have hb0l : w.heap.size < W0.heap.size := hbx.lt
  have h0s : w0.heap.size ≤ w.heap.size := h0.size
  have HPR := Lib.hid (plQ_range d a.rel)
  have HCN := Lib.hid (fun (h : plI d a.rel < 0) => ckA_none (d := d) (M := M) (a := a) h)
  have HCW := Lib.hid (fun (k : Nat) (r : Rln) (h : plI d a.rel = k) (hr : d[k]? = some r) (hl : r.cols.length ≠ a.ts.length) => ckA_wide (M := M) (a := a) h hr hl)
  have HCS := Lib.hid (fun (k : Nat) (r : Rln) (h : plI d a.rel = k) (hr : d[k]? = some r) (hl : r.cols.length = a.ts.length) => ckA_some (M := M) (a := a) h hr hl)
  obtain ⟨R, hR⟩ : ∃ R, ckA d M a = R := ⟨_, rfl⟩
  have hpost : ∀ e w', (e = .returned (.int .i64 R.1) ∧ (R.1 = 0 → ∃ n', n' ≤ n0 + 5 ∧ KMap w' b R.2 n') ∧ Mod (fun k => k = b) w w') → CkAP d M a b n0 w e w' := by
    intro e w' h
    unfold CkAP
    rw [hR]
    exact h
  refine Calls.mono ?_ hpost
  rw [hR] at HCN
  simp only [hR] at HCW HCS
  clear htv hd hbx hb0 hm hW0 hs hk hpost hR h0 h00
  obtain ⟨rel, ts⟩ := a
  simp only at *
  generalize hN : ts.length = n at *
  have HN := Lib.hid hN
  clear hN
  generalize hdn : d.length = dn at *
  have HDN := Lib.hid hdn
  clear hdn
  generalize hpl : plI d rel = pl at *
  clear hpl
  go_enter Tryz.func48, Tryz.ntmps48
  go_wp2_with fail
  rw [HW0.out]
  refine HPL.out.mono ?_
  rintro e w1 ⟨rfl, hb1⟩
  have HB1 := Lib.hid hb1
  have HX1 := Lib.hid (HBX.out.below hb1 HBX.out.lt)
  have HM1 := Lib.hid (HM0.out.below hb1 (by omega))
  have h01 : Below w0.heap.size w0 w1 := H00.out.trans (hb1.mono H00.out.size)
  have hs01 := h01.size
  have H01 := Lib.hid h01
  have HMD := Lib.hid (Mod.ofBelow (F := fun k => k = b) (HB0.out.trans (hb1.mono HB0.out.size)))
  clear hb1 HPL h01
  rcases HPR.out with hneg | ⟨k, r, hpk, hrk⟩
  · subst hneg
    have hr := HCN.out (by decide)
    subst hr
    have d1 : decide ((-1 : Int) < 0) = true := rfl
    go_wp2_with fail
    go_ret
    first | exact ⟨rfl, HMD.out⟩ | exact ⟨rfl, fun h => by simp at h, HMD.out⟩
  · subst hpk
    have hkl : k < dn := by rw [← HDN.out]; exact (List.getElem?_eq_some_iff.1 hrk).1
    have d1 : decide ((k : Int) < 0) = false := by simp
    have d2 : decide ((dn : Int) ≤ (k : Int)) = false := by simp; omega
    obtain ⟨rb, ro, rcap, cv, hv, _, _, hrl, _, q1, hcols, hcl⟩ := HD.out.get hrk
    rw [HDN.out] at hv
    simp only [Value.slice.injEq, true_and] at hv
    obtain ⟨rfl, rfl⟩ := hv
    obtain ⟨ca, cc, rfl, hcn, hcm⟩ := hcols.form
    unfold maxLen at hcm
    have q1 := (H01.out.cell (p := ⟨rb, ro + k * 2 + 1, none⟩) hrl).trans q1
    have hrl1 : rb < w1.heap.size := by omega
    have x1 := HX1.out.cell 1
    have xl := HX1.out.lt
    simp only [List.getElem?_toArray, List.getElem?_cons_zero, List.getElem?_cons_succ] at x1
    have HCO := Lib.hid hcols
    have HKR := Lib.hid (HK.out r (List.mem_of_getElem? hrk))
    have HCW2 := Lib.hid (HCW.out k r rfl hrk)
    have HCS2 := Lib.hid (HCS.out k r rfl hrk)
    clear hrk hcols HPR HCN HCW HCS
    generalize hcnn : r.cols.length = cn at *
    have HCNN := Lib.hid hcnn
    clear hcnn
    by_cases hcn5 : cn = n
    · obtain rfl : n = cn := hcn5.symm
      have hnn : ((n : Int) != (n : Int)) = false := by simp
      have HR := Lib.hid (HCS2.out rfl)
      clear HCW2 HCS2
      go_wp2_with fail
      clear q1 x1 xl
      go_loopw [32] (fun i wr => ∃ (j nj : Nat) (Mj : KM), j ≤ n ∧ i = .int .i64 j ∧ nj ≤ n0 + j ∧ Hid (R = ckTs Mj ((ts.zip (r.cols.map (·.k))).drop j)) ∧ Hid (KMap wr b Mj nj) ∧ Hid (Mod (fun k => k = b) w1 wr)) (fun i _ => n - (intOf i).toNat)
      case atStart => exact ⟨0, n0, M, Nat.zero_le _, rfl, by omega, HR, HM1, Lib.hid (Mod.refl _ _)⟩
      case round =>
        obtain ⟨j, nj, Mj, hj, rfl, hmj, HRJ, HMJ, HMW⟩ := hrel
        obtain ⟨wo, rfl⟩ : ∃ wo : World, wo = wr := ⟨_, rfl⟩
        by_cases hlt : j < n
        · obtain ⟨t, ht⟩ : ∃ t, ts[j]? = some t := ⟨ts[j]'(by rw [HN.out]; exact hlt), List.getElem?_eq_getElem (by rw [HN.out]; exact hlt)⟩
          obtain ⟨c, hc⟩ : ∃ c, r.cols[j]? = some c := ⟨r.cols[j]'(by rw [HCNN.out]; exact hlt), List.getElem?_eq_getElem (by rw [HCNN.out]; exact hlt)⟩
          have hz := zip_kinds ht hc
          have HST := Lib.hid (fun h0 => ckTs_step (M := Mj) hz h0)
          have HSO := Lib.hid (fun h0 => ckTs_stop (M := Mj) hz h0)
          have hts := HS.out t (List.mem_of_getElem? ht)
          have HKC := Lib.hid (HKR.out c (List.mem_of_getElem? hc))
          have hbz : Below w0.heap.size w0 wo := H01.out.trans (HMW.out.below hs01 (fun i hi => by rw [hi]; exact hwb))
          have hwz := HMW.out.size
          obtain ⟨tb, tof, tcap, htvv, _, _, htl, hce⟩ := (HTV.out.keep hbz).get (i := j) (x := t.cells) (by simp [ht])
          simp only [List.length_map, HN.out, Value.slice.injEq, true_and] at htvv
          obtain ⟨rfl, rfl⟩ := htvv
          have p0 := hce 0 _ rfl
          have p1 := hce 1 _ rfl
          have p2 := hce 2 _ rfl
          have p3 := hce 3 _ rfl
          simp only [Nat.add_zero] at p0
          have hdk : decide ((j : Int) < 0) = false := by simp
          have hdn : decide ((n : Int) ≤ (j : Int)) = false := by simp; omega
          have bt := Blk.new wo 106 #[.string ⟨t.x.toArray⟩, .int .i64 t.k, .int .i64 t.n, .string ⟨t.t.toArray⟩]
          have hbt : Below wo.heap.size wo (wo.alloc (.cells #[.string ⟨t.x.toArray⟩, .int .i64 t.k, .int .i64 t.n, .string ⟨t.t.toArray⟩] 106)) := balloc (Below.refl _ _) _
          obtain ⟨Wt, hWt⟩ : ∃ Wt, wo.alloc (.cells #[.string ⟨t.x.toArray⟩, .int .i64 t.k, .int .i64 t.n, .string ⟨t.t.toArray⟩] 106) = Wt := ⟨_, rfl⟩
          rw [hWt] at bt hbt
          obtain ⟨cb, co, ccap, hcv, _, _, hcl2, _, k1⟩ := (ColsAt.keep HCO.out (hbz.trans (hbt.mono hbz.size))).get hc
          simp only [HCNN.out, Value.slice.injEq, true_and] at hcv
          obtain ⟨rfl, rfl⟩ := hcv
          have HWT := Lib.hid hWt
          have HMT := Lib.hid (HMJ.out.below hbt (by have := HMJ.out.lt; omega))
          have HMWT := Lib.hid (HMW.out.trans (Mod.ofBelow (F := fun k => k = b) hbt) (fun _ _ h => h))
          have z0 := bt.cell 0
          have z1 := bt.cell 1
          have zl := bt.lt
          simp only [List.getElem?_toArray, List.getElem?_cons_zero, List.getElem?_cons_succ] at z0 z1
          generalize c.k = ck at *
          clear hce hz ht hc hbz bt hbt hWt
          go_upto_region 10 with fail
          rw [HWT.out]
          clear p0 p1 p2 p3 htl
          by_cases hx : t.x = []
          · have hct := fun k => ckT_const (M := Mj) (k := k) hx
            rw [hx] at z0
            by_cases hkk : t.k = ck
            · have hb : (t.k != ck) = false := by simp [hkk]
              have hst := HST.out (by simp only [hct, hkk]; rfl)
              simp only [hct] at hst
              have HR2 := Lib.hid (HRJ.out.trans hst)
              clear hkk hct hx hst
              go_wp2_with fail
              go_quiet (fail)
              go_wp2_with fail
              go_roundw
              case rel => exact ⟨j + 1, nj, Mj, by omega, by go_num, by omega, HR2, Lib.hid (HMT.out.keep (by simp [World.drewN])), Lib.hid (HMWT.out.trans (Mod.ofBelow (F := fun k => k = b) (bdrewN (Below.refl _ _) _)) (fun _ _ h => h))⟩
              case measure => simp [intOf]; omega
            · have hb : (t.k != ck) = true := by simpa using hkk
              have h95 : R.1 = 95 := by
                rw [HRJ.out, HSO.out (by simp only [hct]; rw [if_neg hkk]; decide)]
                simp only [hct]
                rw [if_neg hkk]
              have H95 := Lib.hid h95
              clear hkk hct hx h95
              go_wp2_with fail
              go_quiet (fail)
              go_wp2_with fail
              go_ret
              exact ⟨by rw [H95.out]; rfl, fun h => by rw [H95.out] at h; simp at h, (HMD.out.trans HMWT.out (fun _ _ h => h)).trans (Mod.ofBelow (F := fun k => k = b) (bdrewN (Below.refl _ _) _)) (fun _ _ h => h)⟩
          · have he2 : t.x.isEmpty = false := by
              cases hxx : t.x with
              | nil => exact absurd hxx hx
              | cons _ _ => rfl
            have he3 : (!t.x.isEmpty) = true := by rw [he2]; rfl
            have hx0 := ba_empty hx
            have hkl := strKl t.x hts
            have HX := Lib.hid hx
            obtain ⟨D, hown, hD⟩ := HMT.out
            have HOW := Lib.hid hown
            have HDD := Lib.hid hD
            clear hown hD hx
            by_cases hmem : t.x ∈ kmL Mj
            · have hct := fun k => ckT_old (k := k) HX.out hmem
              have hhas : Maps.has D (.string t.x) = true := by rw [HDD.out.2.2.1, decide_eq_true hmem]
              have hc0 := HDD.out.2.2.2 t.x hmem (.lit (.int .i64 0))
              have HC0 := Lib.hid hc0
              have HME := Lib.hid hmem
              clear hc0 hmem
              obtain ⟨kf, hkf⟩ : ∃ kf, kmF Mj t.x = kf := ⟨_, rfl⟩
              rw [hkf] at HC0
              simp only [hkf] at hct
              have HKF := Lib.hid hkf
              clear hkf
              by_cases hkk : kf = ck
              · have hb : (kf != ck) = false := by simp [hkk]
                have hst := HST.out (by simp only [hct, hkk]; rfl)
                simp only [hct] at hst
                have HR2 := Lib.hid (HRJ.out.trans hst)
                have HKK := Lib.hid hkk
                clear hkk hct hst
                go_wp2_with (at_lookup; refine wpList_lookup_own_ok_int _ rfl _ _ 90 rfl 9 63 .i64 Tryz.strKey Tryz.underlying90 Tryz.underlying63 (zeroK _) b nj D rfl HOW.out _ _ rfl hkl ?_)
                intro c' hat hwc
                rw [HC0.out] at hat
                simp only [DataW.lit.injEq, Lit.int.injEq, true_and] at hat
                subst hat
                clear hwc
                go_wp2_with fail
                have howd : (World.drew Wt).ownsMap Tryz.prog 9 (plainElem Tryz.prog 63) b nj D := by
                  obtain ⟨es, clock, h1, h2⟩ := HOW.out
                  exact ⟨es, clock, h1, h2⟩
                have HOWD := Lib.hid howd
                clear howd
                refine wp_region_any (by kernel_rfl) ?_
                try (change wpAny _ _ _ _ _ _ _ (World.drew _))
                refine wpAny_take (i := 0) (v := ?_) rfl (by kernel_rfl) (by kernel_rfl) (by kernel_rfl) (fun _ _ _ h => h) (Or.inl ⟨by rfl, ?_⟩) ?_
                rotate_left
                · intro w
                  go_simp
                  try with_reducible rfl
                refine wpAny_take (i := 1) (v := ?_) rfl (by kernel_rfl) (by kernel_rfl) (by kernel_rfl) (fun _ _ _ h => h) (Or.inl ⟨by rfl, ?_⟩) ?_
                rotate_left
                · intro w
                  go_simp
                  try with_reducible rfl
                refine wpAny_take (i := 3) (v := ?_) rfl (by kernel_rfl) (by kernel_rfl) (by kernel_rfl) (fun _ _ _ h => h) (Or.inl ⟨by rfl, ?_⟩) ?_
                rotate_left
                · intro w
                  go_simp
                  try with_reducible rfl
                refine wpAny_take (i := 4) (v := ?_) rfl (by kernel_rfl) (by kernel_rfl) (by kernel_rfl) (fun _ _ _ h => h) (Or.inl ⟨by rfl, ?_⟩) ?_
                rotate_left
                · intro w
                  go_simp
                  try with_reducible rfl
                refine wpAny_take (i := 5) (v := ?_) rfl (by kernel_rfl) (by kernel_rfl) (by kernel_rfl) (fun _ _ _ h => h) (Or.inl ⟨by rfl, ?_⟩) ?_
                rotate_left
                · intro w
                  go_simp
                  try with_reducible rfl
                refine wpAny_take (i := 6) (v := ?_) rfl (by kernel_rfl) (by kernel_rfl) (by kernel_rfl) (fun _ _ _ h => h) (Or.inl ⟨by rfl, ?_⟩) ?_
                rotate_left
                · intro w
                  go_simp
                  try with_reducible rfl
                simp only [Act.put, List.getElem_toArray, List.getElem_cons_succ, List.getElem_cons_zero, List.setIfInBounds_toArray, List.set_cons_succ, List.set_cons_zero]
                refine wpAny_ready (rs := [2, 7]) (by kernel_rfl) (by simp) ?_
                refine AllReady.cons rfl (fun K hK => ?_) (AllReady.cons rfl (fun K hK => ?_) AllReady.nil)
                · go_simp
                  refine hK _ _ ?_
                  clear hK K
                  refine wpAny_ready (rs := [7]) (by kernel_rfl) (by simp) ?_
                  refine AllReady.cons rfl (fun K hK => ?_) AllReady.nil
                  go_simp
                  refine hK _ _ ?_
                  clear hK K
                  refine wpAny_ready (rs := [8]) (by kernel_rfl) (by simp) ?_
                  refine AllReady.cons rfl (fun K hK => ?_) AllReady.nil
                  refine step_mapUpdate_own rfl _ _ _ 90 rfl 9 63 Tryz.strKey Tryz.underlying90 _ b nj D rfl HOWD.out (by unfold maxLen; omega) _ _ _ rfl rfl hkl _ [] (plainElem_int Tryz.underlying63 (WalkArith.wf_i64 HKC.out)) ?_
                  intro w9 hown9 hgrow9
                  refine hK _ _ ?_
                  clear hK K
                  refine wpAny_done (by kernel_rfl) ?_ _
                  have HO9 := Lib.hid hown9
                  have HM9 := Lib.hid ((HMWT.out.trans (Mod.ofBelow (F := fun k => k = b) (bdrew (Below.refl _ _))) (fun _ _ h => h)).trans ((Mod.refl (fun k => k = b) _).grown hgrow9 (fun k hk _ => by simp only [Option.some.injEq] at hk; exact hk.symm)) (fun _ _ h => h))
                  clear hown9 hgrow9
                  go_wp2_with fail
                  go_roundw
                  case rel => exact ⟨j + 1, nj + 1, Mj, by omega, by go_num, by omega, HR2, Lib.hid ⟨_, HO9.out, HDD.out.again HME.out (HKF.out.trans HKK.out) (fun _ _ _ => rfl)⟩, HM9⟩
                  case measure => simp [intOf]; omega
                · go_simp
                  refine hK _ _ ?_
                  clear hK K
                  refine wpAny_ready (rs := [2]) (by kernel_rfl) (by simp) ?_
                  refine AllReady.cons rfl (fun K hK => ?_) AllReady.nil
                  go_simp
                  refine hK _ _ ?_
                  clear hK K
                  refine wpAny_ready (rs := [8]) (by kernel_rfl) (by simp) ?_
                  refine AllReady.cons rfl (fun K hK => ?_) AllReady.nil
                  refine step_mapUpdate_own rfl _ _ _ 90 rfl 9 63 Tryz.strKey Tryz.underlying90 _ b nj D rfl HOWD.out (by unfold maxLen; omega) _ _ _ rfl rfl hkl _ [] (plainElem_int Tryz.underlying63 (WalkArith.wf_i64 HKC.out)) ?_
                  intro w9 hown9 hgrow9
                  refine hK _ _ ?_
                  clear hK K
                  refine wpAny_done (by kernel_rfl) ?_ _
                  have HO9 := Lib.hid hown9
                  have HM9 := Lib.hid ((HMWT.out.trans (Mod.ofBelow (F := fun k => k = b) (bdrew (Below.refl _ _))) (fun _ _ h => h)).trans ((Mod.refl (fun k => k = b) _).grown hgrow9 (fun k hk _ => by simp only [Option.some.injEq] at hk; exact hk.symm)) (fun _ _ h => h))
                  clear hown9 hgrow9
                  go_wp2_with fail
                  go_roundw
                  case rel => exact ⟨j + 1, nj + 1, Mj, by omega, by go_num, by omega, HR2, Lib.hid ⟨_, HO9.out, HDD.out.again HME.out (HKF.out.trans HKK.out) (fun _ _ _ => rfl)⟩, HM9⟩
                  case measure => simp [intOf]; omega
              · have hb : (kf != ck) = true := by simpa using hkk
                have h96 : R.1 = 96 := by
                  rw [HRJ.out, HSO.out (by simp only [hct]; rw [if_neg hkk]; decide)]
                  simp only [hct]
                  rw [if_neg hkk]
                have H96 := Lib.hid h96
                clear hkk hct h96
                go_wp2_with (at_lookup; refine wpList_lookup_own_ok_int _ rfl _ _ 90 rfl 9 63 .i64 Tryz.strKey Tryz.underlying90 Tryz.underlying63 (zeroK _) b nj D rfl HOW.out _ _ rfl hkl ?_)
                intro c' hat hwc
                rw [HC0.out] at hat
                simp only [DataW.lit.injEq, Lit.int.injEq, true_and] at hat
                subst hat
                clear hwc
                go_wp2_with fail
                go_ret
                exact ⟨by rw [H96.out]; rfl, fun h => by rw [H96.out] at h; simp at h, HMD.out.trans HMWT.out (fun _ _ h => h)⟩
            · have hct := fun k => ckT_new (k := k) HX.out hmem
              have hhas : Maps.has D (.string t.x) = false := by rw [HDD.out.2.2.1, decide_eq_false hmem]
              have HME := Lib.hid hmem
              have hst := HST.out (by simp only [hct])
              simp only [hct] at hst
              have HR2 := Lib.hid (HRJ.out.trans hst)
              clear hct hst hmem
              go_wp2_with (at_lookup; refine wpList_lookup_own_ok_int _ rfl _ _ 90 rfl 9 63 .i64 Tryz.strKey Tryz.underlying90 Tryz.underlying63 (zeroK _) b nj D rfl HOW.out _ _ rfl hkl ?_)
              intro c' hat hwc
              clear hat hwc
              go_wp2_with fail
              have howd : (World.drew Wt).ownsMap Tryz.prog 9 (plainElem Tryz.prog 63) b nj D := by
                obtain ⟨es, clock, h1, h2⟩ := HOW.out
                exact ⟨es, clock, h1, h2⟩
              have HOWD := Lib.hid howd
              clear howd
              refine wp_region_any (by kernel_rfl) ?_
              try (change wpAny _ _ _ _ _ _ _ (World.drew _))
              refine wpAny_take (i := 0) (v := ?_) rfl (by kernel_rfl) (by kernel_rfl) (by kernel_rfl) (fun _ _ _ h => h) (Or.inl ⟨by rfl, ?_⟩) ?_
              rotate_left
              · intro w
                go_simp
                try with_reducible rfl
              refine wpAny_take (i := 1) (v := ?_) rfl (by kernel_rfl) (by kernel_rfl) (by kernel_rfl) (fun _ _ _ h => h) (Or.inl ⟨by rfl, ?_⟩) ?_
              rotate_left
              · intro w
                go_simp
                try with_reducible rfl
              refine wpAny_take (i := 3) (v := ?_) rfl (by kernel_rfl) (by kernel_rfl) (by kernel_rfl) (fun _ _ _ h => h) (Or.inl ⟨by rfl, ?_⟩) ?_
              rotate_left
              · intro w
                go_simp
                try with_reducible rfl
              refine wpAny_take (i := 4) (v := ?_) rfl (by kernel_rfl) (by kernel_rfl) (by kernel_rfl) (fun _ _ _ h => h) (Or.inl ⟨by rfl, ?_⟩) ?_
              rotate_left
              · intro w
                go_simp
                try with_reducible rfl
              refine wpAny_take (i := 5) (v := ?_) rfl (by kernel_rfl) (by kernel_rfl) (by kernel_rfl) (fun _ _ _ h => h) (Or.inl ⟨by rfl, ?_⟩) ?_
              rotate_left
              · intro w
                go_simp
                try with_reducible rfl
              refine wpAny_take (i := 6) (v := ?_) rfl (by kernel_rfl) (by kernel_rfl) (by kernel_rfl) (fun _ _ _ h => h) (Or.inl ⟨by rfl, ?_⟩) ?_
              rotate_left
              · intro w
                go_simp
                try with_reducible rfl
              simp only [Act.put, List.getElem_toArray, List.getElem_cons_succ, List.getElem_cons_zero, List.setIfInBounds_toArray, List.set_cons_succ, List.set_cons_zero]
              refine wpAny_ready (rs := [2, 7]) (by kernel_rfl) (by simp) ?_
              refine AllReady.cons rfl (fun K hK => ?_) (AllReady.cons rfl (fun K hK => ?_) AllReady.nil)
              · go_simp
                refine hK _ _ ?_
                clear hK K
                refine wpAny_ready (rs := [7]) (by kernel_rfl) (by simp) ?_
                refine AllReady.cons rfl (fun K hK => ?_) AllReady.nil
                go_simp
                refine hK _ _ ?_
                clear hK K
                refine wpAny_ready (rs := [8]) (by kernel_rfl) (by simp) ?_
                refine AllReady.cons rfl (fun K hK => ?_) AllReady.nil
                refine step_mapUpdate_own rfl _ _ _ 90 rfl 9 63 Tryz.strKey Tryz.underlying90 _ b nj D rfl HOWD.out (by unfold maxLen; omega) _ _ _ rfl rfl hkl _ [] (plainElem_int Tryz.underlying63 (WalkArith.wf_i64 HKC.out)) ?_
                intro w9 hown9 hgrow9
                refine hK _ _ ?_
                clear hK K
                refine wpAny_done (by kernel_rfl) ?_ _
                have HO9 := Lib.hid hown9
                have HM9 := Lib.hid ((HMWT.out.trans (Mod.ofBelow (F := fun k => k = b) (bdrew (Below.refl _ _))) (fun _ _ h => h)).trans ((Mod.refl (fun k => k = b) _).grown hgrow9 (fun k hk _ => by simp only [Option.some.injEq] at hk; exact hk.symm)) (fun _ _ h => h))
                clear hown9 hgrow9
                go_wp2_with fail
                go_roundw
                case rel => exact ⟨j + 1, nj + 1, Mj ++ [(t.x, ck)], by omega, by go_num, by omega, HR2, Lib.hid ⟨_, HO9.out, by rw [kmL_snoc]; exact HDD.out.put HME.out (kmF_new HME.out) (fun _ ht => kmF_keep ht)⟩, HM9⟩
                case measure => simp [intOf]; omega
              · go_simp
                refine hK _ _ ?_
                clear hK K
                refine wpAny_ready (rs := [2]) (by kernel_rfl) (by simp) ?_
                refine AllReady.cons rfl (fun K hK => ?_) AllReady.nil
                go_simp
                refine hK _ _ ?_
                clear hK K
                refine wpAny_ready (rs := [8]) (by kernel_rfl) (by simp) ?_
                refine AllReady.cons rfl (fun K hK => ?_) AllReady.nil
                refine step_mapUpdate_own rfl _ _ _ 90 rfl 9 63 Tryz.strKey Tryz.underlying90 _ b nj D rfl HOWD.out (by unfold maxLen; omega) _ _ _ rfl rfl hkl _ [] (plainElem_int Tryz.underlying63 (WalkArith.wf_i64 HKC.out)) ?_
                intro w9 hown9 hgrow9
                refine hK _ _ ?_
                clear hK K
                refine wpAny_done (by kernel_rfl) ?_ _
                have HO9 := Lib.hid hown9
                have HM9 := Lib.hid ((HMWT.out.trans (Mod.ofBelow (F := fun k => k = b) (bdrew (Below.refl _ _))) (fun _ _ h => h)).trans ((Mod.refl (fun k => k = b) _).grown hgrow9 (fun k hk _ => by simp only [Option.some.injEq] at hk; exact hk.symm)) (fun _ _ h => h))
                clear hown9 hgrow9
                go_wp2_with fail
                go_roundw
                case rel => exact ⟨j + 1, nj + 1, Mj ++ [(t.x, ck)], by omega, by go_num, by omega, HR2, Lib.hid ⟨_, HO9.out, by rw [kmL_snoc]; exact HDD.out.put HME.out (kmF_new HME.out) (fun _ ht => kmF_keep ht)⟩, HM9⟩
                case measure => simp [intOf]; omega
        · obtain rfl : j = n := by omega
          have hrj := HRJ.out
          rw [ckTs_end (by rw [List.length_zip, HN.out]; exact Nat.min_le_left _ _)] at hrj
          subst hrj
          go_wp2_with fail
          go_ret
          exact ⟨rfl, ⟨nj, by omega, HMJ.out⟩, HMD.out.trans HMW.out (fun _ _ h => h)⟩
    · have hnn : ((cn : Int) != (n : Int)) = true := by simpa using fun e => hcn5 (by omega)
      have hR := HCW2.out hcn5
      subst hR
      go_wp2_with fail
      go_ret
      first | exact ⟨rfl, HMD.out⟩ | exact ⟨rfl, fun h => by simp at h, HMD.out⟩
end Go.Proofs.YtgilflkgibfjgaaGreatDoor
namespace Go.Proofs.YtgilflkgibfjgaaGreatDoor
open Go.RowKit Go.Maps
set_option linter.unusedVariables false

set_option maxHeartbeats 16000000 in
set_option maxRecDepth 100000 in
theorem qcheck_any (w : World) (nm : ByteArray) (hv av rv : Value) (hd : List (List UInt8)) (al : List Atm) (d : List Rln) (hh : StrsAt w hv hd) (h : AtomsAt w av al) (hr : RelsAt w rv d) (hn : nm.size ≤ 140737488355328) (hl : ∀ s ∈ hd, s.length ≤ 140737488355328) (ha : LensA al)
    (hk : ∀ r ∈ d, ∀ c ∈ r.cols, RangeK c.k) :
    Calls Tryz.prog 13 #[.agg #[.string nm, hv, av], rv] w fun e w' => e = .returned (.tuple #[.int .i64 (ckQ ⟨nm.data.toList, hd, al⟩ d).1, .int .i64 (ckQ ⟨nm.data.toList, hd, al⟩ d).2]) ∧ Below w.heap.size w w' := by
  have hnot : ∀ (x : Bool) (w : World), (Op.unary .not (.bool x)).run Tryz.prog w = .ok (.bool (!x)) w := fun _ _ => rfl
  have hmm := @run_makeMap Tryz.prog
  obtain ⟨W0, hW0⟩ : ∃ W0, w.alloc (.cells #[.string nm, hv, av] 34) = W0 := ⟨_, rfl⟩
  have hb0 : Below w.heap.size w W0 := by rw [← hW0]; exact balloc (Below.refl _ _) _
  have hbx : Blk W0 w.heap.size 34 #[.string nm, hv, av] := by rw [← hW0]; exact Blk.new _ _ _
  have hsh := shape_any W0 nm hv av hd al (hh.keep hb0) (h.keep hb0) hn hl ha
  have hrt := chkQ_right (q := ⟨nm.data.toList, hd, al⟩)
  have hz0 : chkQ ⟨nm.data.toList, hd, al⟩ ≠ 0 → ckQ ⟨nm.data.toList, hd, al⟩ d = (0, chkQ ⟨nm.data.toList, hd, al⟩) := fun hne => by
    unfold ckQ
    rw [if_neg hne]
  have hz1 : chkQ ⟨nm.data.toList, hd, al⟩ = 0 → ckQ ⟨nm.data.toList, hd, al⟩ d = ckL d [] (al.drop 0) 0 := fun he => by
    unfold ckQ
    rw [if_pos he]
    rfl
  obtain ⟨RES, hRES⟩ : ∃ RES, ckQ ⟨nm.data.toList, hd, al⟩ d = RES := ⟨_, rfl⟩
  obtain ⟨ck, hck⟩ : ∃ ck, chkQ ⟨nm.data.toList, hd, al⟩ = ck := ⟨_, rfl⟩
  rw [hck] at hsh hrt hz0 hz1
  rw [hRES] at hz0 hz1 ⊢
  obtain ⟨ha_, hc_, rfl, _, _⟩ := hh.form
  obtain ⟨aa, ac, rfl, hac, ham⟩ := h.form
  obtain ⟨ra, rc, rfl, _, _⟩ := hr.form
  unfold maxLen at ham
  have HA := Lib.hid h
  have HR := Lib.hid hr
  have HL := Lib.hid ha
  have HK := Lib.hid hk
  have HB0 := Lib.hid hb0
  have HBX := Lib.hid hbx
  have HW0 := Lib.hid hW0
  have HSH := Lib.hid hsh
  have HRT := Lib.hid hrt
  have HZ0 := Lib.hid hz0
  have HZ1 := Lib.hid hz1
  clear hh h hr hl ha hk hb0 hbx hW0 hsh hrt hz0 hz1 hck hRES
  generalize hN : al.length = n at *
  generalize hM : d.length = dn at *
  have HN := Lib.hid hN
  clear hN hM
  by_cases hk0 : ck = 0
  · have q0 : (ck != 0) = false := by simp [hk0]
    have hrt := HRT.out hk0
    have h6 : n ≤ 6 := by rw [← HN.out]; exact hrt.few
    have HTH := Lib.hid hrt.thin
    have HRS := Lib.hid (HZ1.out hk0)
    clear hk0 hrt HZ0 HZ1 HRT
    go_enter Tryz.func13, Tryz.ntmps13
    go_wp2_with fail
    rw [HW0.out]
    refine HSH.out.mono ?_
    rintro e w1 ⟨rfl, hb1⟩
    have hb01 := HB0.out.trans (hb1.mono HB0.out.size)
    have hbm : Below w1.heap.size w1 (w1.alloc (.map #[] 0)) := balloc (Below.refl _ _) _
    have hkm := KMap.made w1
    have hbx1 := (HBX.out.below hb1 HBX.out.lt).alloc (.map #[] 0)
    have hs01 := hb01.size
    obtain ⟨W2, hW2⟩ : ∃ W2, w1.alloc (.map #[] 0) = W2 := ⟨_, rfl⟩
    rw [hW2] at hbm hkm hbx1
    have x2 := hbx1.cell 2
    have xl := hbx1.lt
    simp only [List.getElem?_toArray, List.getElem?_cons_zero, List.getElem?_cons_succ] at x2
    have HW2 := Lib.hid hW2
    have HKM := Lib.hid hkm
    have HB2 := Lib.hid (hb01.trans (hbm.mono hs01))
    clear hb1 hb01 hbm hkm hbx1 hW2 HSH
    go_upto_region 5 with fail
    rw [HW2.out]
    go_wp2_with fail
    clear x2 xl
    go_loopw [20] (fun i wr => ∃ (j nj : Nat) (Mj : KM), j ≤ n ∧ i = .int .i64 j ∧ nj ≤ 5 * j ∧ Hid (RES = ckL d Mj (al.drop j) j) ∧ Hid (KMap wr w1.heap.size Mj nj) ∧ Hid (Below w.heap.size w wr)) (fun i _ => n - (intOf i).toNat)
    case atStart => exact ⟨0, 0, [], Nat.zero_le _, rfl, by omega, HRS, HKM, HB2⟩
    case round =>
      obtain ⟨j, nj, Mj, hj, rfl, hmj, HRJ, HMJ, HBW⟩ := hrel
      obtain ⟨wo, rfl⟩ : ∃ wo : World, wo = wr := ⟨_, rfl⟩
      by_cases hlt : j < n
      · obtain ⟨a, ha⟩ : ∃ a, al[j]? = some a := ⟨al[j]'(by rw [HN.out]; exact hlt), List.getElem?_eq_getElem (by rw [HN.out]; exact hlt)⟩
        have ham' := List.mem_of_getElem? ha
        have HST := Lib.hid (fun h0 => ckL_step (d := d) (M := Mj) (i := j) ha h0)
        have HSO := Lib.hid (fun h0 => ckL_stop (d := d) (M := Mj) (i := j) ha h0)
        obtain ⟨tb, tof, tcap, tv, htv, _, _, htl, p0, p1, hrow, _⟩ := HA.out.get ha
        rw [HN.out] at htv
        simp only [Value.slice.injEq, true_and] at htv
        obtain ⟨rfl, rfl⟩ := htv
        have p0 := (HBW.out.cell (p := ⟨tb, tof + j * 2, none⟩) htl).trans p0
        have p1 := (HBW.out.cell (p := ⟨tb, tof + j * 2 + 1, none⟩) htl).trans p1
        have hwz := HBW.out.size
        have htl2 : tb < wo.heap.size := Nat.lt_of_lt_of_le htl hwz
        obtain ⟨ta, tc, rfl, _, _⟩ := hrow.form
        have hdk : decide ((j : Int) < 0) = false := by simp
        have hdn : decide ((n : Int) ≤ (j : Int)) = false := by simp; omega
        have hbt : Below wo.heap.size wo (wo.alloc (.cells #[.string ⟨a.rel.toArray⟩, .slice ta (a.ts.map Trm.cells).length tc] 93)) := balloc (Below.refl _ _) _
        have bt := Blk.new wo 93 #[.string ⟨a.rel.toArray⟩, .slice ta (a.ts.map Trm.cells).length tc]
        obtain ⟨Wt, hWt⟩ : ∃ Wt, wo.alloc (.cells #[.string ⟨a.rel.toArray⟩, .slice ta (a.ts.map Trm.cells).length tc] 93) = Wt := ⟨_, rfl⟩
        rw [hWt] at hbt bt
        have hbw2 := HBW.out.trans (hbt.mono hwz)
        have hca := checkAtom_any w Wt hbw2 (.slice ta (a.ts.map Trm.cells).length tc) (.slice ra dn rc) a d w1.heap.size nj Mj hs01 hrow (HTH.out a ham') (HL.out a ham').2 HR.out HK.out (HMJ.out.below hbt (by have := HMJ.out.lt; omega)) (by omega)
        have z0 := bt.cell 0
        have z1 := bt.cell 1
        have zl := bt.lt
        simp only [List.getElem?_toArray, List.getElem?_cons_zero, List.getElem?_cons_succ] at z0 z1
        have HCA := Lib.hid hca
        have HWT := Lib.hid hWt
        have HB3 := Lib.hid hbw2
        clear ha ham' hrow hbt bt hWt hbw2 hca
        generalize (a.ts.map Trm.cells).length = tn at *
        go_upto_region 8 with fail
        rw [HWT.out]
        go_wp2_with fail
        refine HCA.out.mono ?_
        rintro e w5 ⟨rfl, hkm5, hm5⟩
        have hb5 := HB3.out.trans (hm5.below HB3.out.size (fun i hi => by rw [hi]; exact hs01))
        have HB5 := Lib.hid hb5
        have HK5 := Lib.hid hkm5
        clear hkm5 hm5 hb5 z0 z1 zl p0 p1 htl htl2 HCA
        obtain ⟨ce, hce⟩ : ∃ ce, (ckA d Mj a).1 = ce := ⟨_, rfl⟩
        rw [hce]
        by_cases hc0 : ce = 0
        · have q1 : (ce != 0) = false := by simp [hc0]
          obtain ⟨n', hn', hk'⟩ := HK5.out (by rw [hce, hc0])
          have HRN := Lib.hid (HRJ.out.trans (HST.out (by rw [hce, hc0])))
          have HKN := Lib.hid hk'
          clear hc0 hk' hce
          go_wp2_with fail
          go_roundw
          case rel => exact ⟨j + 1, n', _, by omega, by go_num, by omega, HRN, HKN, HB5⟩
          case measure => simp [intOf]; omega
        · have q1 : (ce != 0) = true := by simpa using hc0
          have hr := HRJ.out.trans (HSO.out (by rw [hce]; exact hc0))
          rw [hce] at hr
          subst hr
          clear hc0 hce
          go_wp2_with fail
          go_ret2
          exact ⟨rfl, HB5.out⟩
      · obtain rfl : j = n := by omega
        have hr := HRJ.out
        rw [ckL_end (by rw [HN.out]; exact Nat.le_refl _)] at hr
        subst hr
        go_wp2_with fail
        go_ret2
        exact ⟨rfl, HBW.out⟩
  · have q0 : (ck != 0) = true := by simpa using hk0
    have hr := HZ0.out hk0
    subst hr
    clear hk0 HZ0 HZ1 HRT
    go_enter Tryz.func13, Tryz.ntmps13
    go_wp2_with fail
    rw [HW0.out]
    refine HSH.out.mono ?_
    rintro e w1 ⟨rfl, hb1⟩
    have HB1 := Lib.hid (HB0.out.trans (hb1.mono HB0.out.size))
    clear hb1 HSH
    go_wp2_with fail
    go_ret2
    exact ⟨rfl, HB1.out⟩
end Go.Proofs.YtgilflkgibfjgaaGreatDoor
namespace Go.Proofs.YtgilflkgibfjgaaGreatDoor
open Go.RowKit
set_option linter.unusedVariables false

theorem Tryz.infoStK : (Tryz.prog.info? 9).map (fun i => (i.zero, i.size, i.bytes)) = some (some (.string ⟨#[]⟩), 1, 16) := by kernel_rfl
theorem Tryz.infoKd : (Tryz.prog.info? 63).map (fun i => (i.zero, i.size, i.bytes)) = some (some (.int .i64 0), 1, 8) := by kernel_rfl
/-- A slice of kinds of the call's own. -/
def KindsO (B : Nat) (w : World) (v : Value) (l : List Int) : Prop := w.ownsRow B 63 1 v l.length (l.map fun p => .int .i64 p)
theorem KindsO.get {B : Nat} {w : World} {v : Value} {l : List Int} (h : KindsO B w v l) {i : Nat} {p : Int} (hi : l[i]? = some p) : ∃ g cap, v = .slice (some ⟨g, 0, none⟩) l.length cap ∧ g < w.heap.size ∧ w.cell? ⟨g, i, none⟩ = some (.int .i64 p) := by
  have hl : 0 < l.length := by have := (List.getElem?_eq_some_iff.1 hi).1; omega
  obtain ⟨g, cap, rfl, _, h2⟩ := World.ownsRow.form h hl
  have h3 := World.ownsRow.cellAt h i (by have := (List.getElem?_eq_some_iff.1 hi).1; omega)
  rw [List.getElem?_map, hi] at h3
  exact ⟨g, cap, rfl, h2, h3⟩
theorem idxI_in {L : List (List UInt8)} {s : List UInt8} (h : s ∈ L) : idxI L s = (L.idxOf s : Nat) := by
  unfold idxI
  rw [if_pos h]
theorem idxI_out {L : List (List UInt8)} {s : List UInt8} (h : s ∉ L) : idxI L s = -1 := by
  unfold idxI
  rw [if_neg h]
/-- What the document's Check keeps. -/
structure RK (w wr : World) (sv kv : Value) (M : KM) : Prop where
  vars : OwnS w.heap.size wr sv (kmL M)
  kinds : KindsO w.heap.size wr kv (M.map (·.2))
  below : Below w.heap.size w wr
theorem RK.keep {w wr w' : World} {sv kv : Value} {M : KM} (h : RK w wr sv kv M) (hb : Below wr.heap.size wr w') : RK w w' sv kv M :=
  ⟨(MT.ofBelow (B := 0) (Ts := []) hb).ownsRow h.vars (by simp), (MT.ofBelow (B := 0) (Ts := []) hb).ownsRow h.kinds (by simp), h.below.trans (hb.mono h.below.size)⟩

set_option maxHeartbeats 16000000 in
set_option maxRecDepth 100000 in
theorem refQCheck_any (w : World) (nm : ByteArray) (hv av rv : Value) (hd : List (List UInt8)) (al : List Atm) (d : List Rln) (hh : StrsAt w hv hd) (h : AtomsAt w av al) (hr : RelsAt w rv d) (hn : nm.size ≤ 140737488355328) (hl : ∀ s ∈ hd, s.length ≤ 140737488355328) (ha : LensA al) :
    Calls Tryz.prog 16 #[.agg #[.string nm, hv, av], rv] w fun e w' => e = .returned (.tuple #[.int .i64 (ckQ ⟨nm.data.toList, hd, al⟩ d).1, .int .i64 (ckQ ⟨nm.data.toList, hd, al⟩ d).2]) ∧ Below w.heap.size w w' := by
  have hnot : ∀ (x : Bool) (w : World), (Op.unary .not (.bool x)).run Tryz.prog w = .ok (.bool (!x)) w := fun _ _ => rfl
  obtain ⟨is, his, hi0, hi1, hi2⟩ := info_parts Tryz.infoStK
  obtain ⟨ik, hik, hk0, hk1, hk2⟩ := info_parts Tryz.infoKd
  obtain ⟨W0, hW0⟩ : ∃ W0, w.alloc (.cells #[.string nm, hv, av] 34) = W0 := ⟨_, rfl⟩
  have hb0 : Below w.heap.size w W0 := by rw [← hW0]; exact balloc (Below.refl _ _) _
  have hbx : Blk W0 w.heap.size 34 #[.string nm, hv, av] := by rw [← hW0]; exact Blk.new _ _ _
  have hsh := refShape_any W0 nm hv av hd al (hh.keep hb0) (h.keep hb0) hn hl ha
  have hrt := chkQ_right (q := ⟨nm.data.toList, hd, al⟩)
  have hz0 : chkQ ⟨nm.data.toList, hd, al⟩ ≠ 0 → ckQ ⟨nm.data.toList, hd, al⟩ d = (0, chkQ ⟨nm.data.toList, hd, al⟩) := fun hne => by
    unfold ckQ
    rw [if_neg hne]
  have hz1 : chkQ ⟨nm.data.toList, hd, al⟩ = 0 → ckQ ⟨nm.data.toList, hd, al⟩ d = ckL d [] (al.drop 0) 0 := fun he => by
    unfold ckQ
    rw [if_pos he]
    rfl
  obtain ⟨RES, hRES⟩ : ∃ RES, ckQ ⟨nm.data.toList, hd, al⟩ d = RES := ⟨_, rfl⟩
  obtain ⟨ck, hck⟩ : ∃ ck, chkQ ⟨nm.data.toList, hd, al⟩ = ck := ⟨_, rfl⟩
  rw [hck] at hsh hrt hz0 hz1
  rw [hRES] at hz0 hz1 ⊢
  obtain ⟨ha_, hc_, rfl, _, _⟩ := hh.form
  obtain ⟨aa, ac, rfl, hac, ham⟩ := h.form
  obtain ⟨ra, rc, rfl, _, _⟩ := hr.form
  unfold maxLen at ham
  have HA := Lib.hid h
  have HR := Lib.hid hr
  have HL := Lib.hid ha
  have HB0 := Lib.hid hb0
  have HBX := Lib.hid hbx
  have HW0 := Lib.hid hW0
  have HSH := Lib.hid hsh
  have HRT := Lib.hid hrt
  have HZ0 := Lib.hid hz0
  have HZ1 := Lib.hid hz1
  clear hh h hr hl ha hb0 hbx hW0 hsh hrt hz0 hz1 hck hRES
  generalize hN : al.length = n at *
  generalize hM : d.length = dn at *
  have HN := Lib.hid hN
  have HDN := Lib.hid hM
  clear hN hM
  by_cases hck0 : ck = 0
  · have q0 : (ck != 0) = false := by simp [hck0]
    have hrt := HRT.out hck0
    have h6 : n ≤ 6 := by rw [← HN.out]; exact hrt.few
    have HTH := Lib.hid hrt.thin
    have HRS := Lib.hid (HZ1.out hck0)
    clear hck0 hrt HZ0 HZ1 HRT
    go_enter Tryz.func16, Tryz.ntmps16
    go_wp2_with fail
    rw [HW0.out]
    refine HSH.out.mono ?_
    rintro e w1 ⟨rfl, hb1⟩
    have hb01 := HB0.out.trans (hb1.mono HB0.out.size)
    have HBX1 := Lib.hid (HBX.out.below hb1 HBX.out.lt)
    have hwl : w.heap.size < w1.heap.size := HBX1.out.lt
    have HRK := Lib.hid (⟨World.ownsRow_nil _ _ _ _, World.ownsRow_nil _ _ _ _, hb01⟩ : RK w w1 (.slice none 0 0) (.slice none 0 0) [])
    clear hb1 hb01 HSH
    go_wp2_with fail
    go_loopw [7, 8, 9] (fun s7 s8 s9 wr => ∃ (i mn : Nat) (M : KM) (va ka : Option Addr) (vc kc : Nat), i ≤ n ∧ s7 = .slice va mn vc ∧ s8 = .slice ka mn kc ∧ s9 = .int .i64 i ∧ mn ≤ 5 * i ∧ Hid (M.length = mn) ∧ Hid (RES = ckL d M (al.drop i) i) ∧ Hid (RK w wr (.slice va mn vc) (.slice ka mn kc) M) ∧ Hid (Blk wr w.heap.size 34 #[.string nm, .slice ha_ hd.length hc_, .slice aa n ac])) (fun _ _ i _ => n - (intOf i).toNat)
    case atStart => exact ⟨0, 0, [], none, none, 0, 0, Nat.zero_le _, rfl, rfl, rfl, by omega, Lib.hid rfl, HRS, HRK, HBX1⟩
    case round =>
      obtain ⟨i, mn, M, va, ka, vc, kc, hi, rfl, rfl, rfl, hmn, HMN, HRJ, HK, HQ⟩ := hrel
      obtain ⟨wo, rfl⟩ : ∃ wo : World, wo = wr := ⟨_, rfl⟩
      have x2 := HQ.out.cell 2
      have xl := HQ.out.lt
      simp only [List.getElem?_toArray, List.getElem?_cons_zero, List.getElem?_cons_succ] at x2
      by_cases hlt : i < n
      · obtain ⟨a, ha⟩ : ∃ a, al[i]? = some a := ⟨al[i]'(by rw [HN.out]; exact hlt), List.getElem?_eq_getElem (by rw [HN.out]; exact hlt)⟩
        have ham' := List.mem_of_getElem? ha
        have HST := Lib.hid (fun h0 => ckL_step (d := d) (M := M) (i := i) ha h0)
        have HSO := Lib.hid (fun h0 => ckL_stop (d := d) (M := M) (i := i) ha h0)
        have hbw := HK.out.below
        obtain ⟨tb, tof, tcap, tv, htv, _, _, htl0, p0, p1, hrow, _⟩ := HA.out.get ha
        rw [HN.out] at htv
        simp only [Value.slice.injEq, true_and] at htv
        obtain ⟨rfl, rfl⟩ := htv
        obtain ⟨ta, tc, rfl, _, _⟩ := hrow.form
        have p0 := (hbw.cell (p := ⟨tb, tof + i * 2, none⟩) htl0).trans p0
        have p1 := (hbw.cell (p := ⟨tb, tof + i * 2 + 1, none⟩) htl0).trans p1
        have htl : tb < wo.heap.size := Nat.lt_of_lt_of_le htl0 hbw.size
        have hdk : decide ((i : Int) < 0) = false := by simp
        have hdn : decide ((n : Int) ≤ (i : Int)) = false := by simp; omega
        have h5 := HTH.out a ham'
        have HTL := Lib.hid (HL.out a ham').2
        simp only [List.length_map] at p1 hrow
        have hbt : Below wo.heap.size wo (wo.alloc (.cells #[.string ⟨a.rel.toArray⟩, .slice ta a.ts.length tc] 93)) := balloc (Below.refl _ _) _
        have bt := Blk.new wo 93 #[.string ⟨a.rel.toArray⟩, .slice ta a.ts.length tc]
        obtain ⟨Wt, hWt⟩ : ∃ Wt, wo.alloc (.cells #[.string ⟨a.rel.toArray⟩, .slice ta a.ts.length tc] 93) = Wt := ⟨_, rfl⟩
        rw [hWt] at hbt bt
        have hbw2 := hbw.trans (hbt.mono hbw.size)
        have hpl := refPlace_any Wt (.slice ra dn rc) d ⟨a.rel.toArray⟩ (HR.out.keep hbw2)
        rw [show (⟨a.rel.toArray⟩ : ByteArray).data.toList = a.rel by simp] at hpl
        have HPR := Lib.hid (plQ_range d a.rel)
        have HCN := Lib.hid (fun (h : plI d a.rel < 0) => ckA_none (d := d) (M := M) (a := a) h)
        have HCW := Lib.hid (fun (k : Nat) (r : Rln) (h : plI d a.rel = k) (hr : d[k]? = some r) (hl : r.cols.length ≠ a.ts.length) => ckA_wide (M := M) (a := a) h hr hl)
        have HCS := Lib.hid (fun (k : Nat) (r : Rln) (h : plI d a.rel = k) (hr : d[k]? = some r) (hl : r.cols.length = a.ts.length) => ckA_some (M := M) (a := a) h hr hl)
        obtain ⟨R, hR⟩ : ∃ R, ckA d M a = R := ⟨_, rfl⟩
        rw [hR] at HCN HST HSO
        simp only [hR] at HCW HCS
        obtain ⟨pl, hpv⟩ : ∃ pl, plI d a.rel = pl := ⟨_, rfl⟩
        rw [hpv] at hpl HPR HCN
        simp only [hpv] at HCW HCS HPR
        have z0 := bt.cell 0
        have zl := bt.lt
        simp only [List.getElem?_toArray, List.getElem?_cons_zero] at z0
        have HPL := Lib.hid hpl
        have HWT := Lib.hid hWt
        have HBT := Lib.hid bt
        have HROW := Lib.hid hrow
        have HKT := Lib.hid (HK.out.keep hbt)
        have HQT := Lib.hid (HQ.out.below hbt HQ.out.lt)
        clear ha ham' hbw hrow hbt bt hWt hbw2 hpl hR hpv
        generalize hTN : a.ts.length = tn at *
        have HTN := Lib.hid hTN
        clear hTN
        go_upto_region 10 with fail
        rw [HWT.out]
        go_wp2_with fail
        refine HPL.out.mono ?_
        rintro e w5 ⟨rfl, hb5⟩
        have HK5 := Lib.hid (HKT.out.keep hb5)
        have HQ5 := Lib.hid (HQT.out.below hb5 HQT.out.lt)
        have HBT5 := Lib.hid (HBT.out.below hb5 HBT.out.lt)
        clear hb5 HKT HQT HBT HPL z0 zl p0 p1 htl x2 xl
        rcases HPR.out with hneg | ⟨k, r, hpk, hrk⟩
        · subst hneg
          have hr := HRJ.out.trans (HSO.out (by rw [HCN.out (by decide)]; show (86 : Int) ≠ 0; decide))
          rw [HCN.out (by decide)] at hr
          subst hr
          have d1 : decide ((-1 : Int) < 0) = true := rfl
          go_wp2_with fail
          go_ret2
          exact ⟨by first | rfl | simp, HK5.out.below⟩
        · subst hpk
          have hkl : k < dn := by rw [← HDN.out]; exact (List.getElem?_eq_some_iff.1 hrk).1
          have d1 : decide ((k : Int) < 0) = false := by simp
          have d2 : decide ((dn : Int) ≤ (k : Int)) = false := by simp; omega
          obtain ⟨rb, ro, rcap, cv, hv, _, _, hrl0, _, q1w, hcols, _⟩ := HR.out.get hrk
          rw [HDN.out] at hv
          simp only [Value.slice.injEq, true_and] at hv
          obtain ⟨rfl, rfl⟩ := hv
          obtain ⟨ca, cc, rfl, hcn, hcm⟩ := hcols.form
          have q1 := (HK5.out.below.cell (p := ⟨rb, ro + k * 2 + 1, none⟩) hrl0).trans q1w
          have hrl : rb < w5.heap.size := Nat.lt_of_lt_of_le hrl0 HK5.out.below.size
          have z1 := HBT5.out.cell 1
          have zl := HBT5.out.lt
          simp only [List.getElem?_toArray, List.getElem?_cons_zero, List.getElem?_cons_succ] at z1
          have HCO := Lib.hid hcols
          have HRK := Lib.hid hrk
          have HCW2 := Lib.hid (HCW.out k r rfl hrk)
          have HCS2 := Lib.hid (HCS.out k r rfl hrk)
          clear hrk hcols HPR HCN HCW HCS
          generalize hcnn : r.cols.length = cn at *
          have HQ1 := Lib.hid q1w
          clear q1w
          have HCNN := Lib.hid hcnn
          clear hcnn
          by_cases hcn5 : cn = tn
          · obtain rfl : tn = cn := hcn5.symm
            have hnn : ((tn : Int) != (tn : Int)) = false := by simp
            have HRC := Lib.hid (HCS2.out rfl)
            clear HCW2 HCS2
            go_wp2_with fail
            go_quiet (fail)
            go_wp2_with fail
            go_loopw [7, 8, 12] (fun s7 s8 s12 wr => ∃ (j mj : Nat) (Mj : KM) (va ka : Option Addr) (vc kc : Nat), j ≤ tn ∧ s7 = .slice va mj vc ∧ s8 = .slice ka mj kc ∧ s12 = .int .i64 j ∧ mj ≤ mn + j ∧ Hid (Mj.length = mj) ∧ Hid (R = ckTs Mj ((a.ts.zip (r.cols.map (·.k))).drop j)) ∧ Hid (RK w wr (.slice va mj vc) (.slice ka mj kc) Mj) ∧ Hid (Blk wr w.heap.size 34 #[.string nm, .slice ha_ hd.length hc_, .slice (some ⟨tb, tof, none⟩) n ac]) ∧ Hid (Blk wr wo.heap.size 93 #[.string ⟨a.rel.toArray⟩, .slice ta tn tc])) (fun _ _ i _ => tn - (intOf i).toNat)
            case atStart => exact ⟨0, mn, M, _, _, _, _, Nat.zero_le _, rfl, rfl, rfl, by omega, HMN, HRC, Lib.hid (HK5.out.keep (bdrewN (Below.refl _ _) _)), Lib.hid (HQ5.out.drewN _), Lib.hid (HBT5.out.drewN _)⟩
            case round =>
              obtain ⟨j, mj, Mj, va, ka, vc, kc, hj, rfl, rfl, rfl, hmj, HMJ, HRJJ, HKJ, HQJ, HBJ⟩ := hrel
              obtain ⟨wi, rfl⟩ : ∃ wi : World, wi = wr := ⟨_, rfl⟩
              have y1 := HBJ.out.cell 1
              have yl := HBJ.out.lt
              simp only [List.getElem?_toArray, List.getElem?_cons_zero, List.getElem?_cons_succ] at y1
              clear z1 zl q1 hrl
              by_cases hjl : j < tn
              · obtain ⟨t, ht⟩ : ∃ t, a.ts[j]? = some t := ⟨a.ts[j]'(by rw [HTN.out]; exact hjl), List.getElem?_eq_getElem (by rw [HTN.out]; exact hjl)⟩
                obtain ⟨c, hc⟩ : ∃ c, r.cols[j]? = some c := ⟨r.cols[j]'(by rw [HCNN.out]; exact hjl), List.getElem?_eq_getElem (by rw [HCNN.out]; exact hjl)⟩
                have hz := zip_kinds ht hc
                have HSTT := Lib.hid (fun h0 => ckTs_step (M := Mj) hz h0)
                have HSOT := Lib.hid (fun h0 => ckTs_stop (M := Mj) hz h0)
                have hbi := HKJ.out.below
                have q1 := (hbi.cell (p := ⟨rb, ro + k * 2 + 1, none⟩) hrl0).trans HQ1.out
                have hrl : rb < wi.heap.size := Nat.lt_of_lt_of_le hrl0 hbi.size
                obtain ⟨sb, sof, scap, hsv, _, _, hsl, hce⟩ := (HROW.out.keep hbi).get (i := j) (x := t.cells) (by simp [ht])
                simp only [List.length_map, HTN.out, Value.slice.injEq, true_and] at hsv
                obtain ⟨rfl, rfl⟩ := hsv
                have p0 := hce 0 _ rfl
                have p1 := hce 1 _ rfl
                simp only [Nat.add_zero] at p0
                obtain ⟨cb, co, ccap, hcv, _, _, hcl2, _, k1⟩ := (ColsAt.keep HCO.out hbi).get hc
                simp only [HCNN.out, Value.slice.injEq, true_and] at hcv
                obtain ⟨rfl, rfl⟩ := hcv
                have hjk : decide ((j : Int) < 0) = false := by simp
                have hjn : decide ((tn : Int) ≤ (j : Int)) = false := by simp; omega
                have hts := HTL.out t (List.mem_of_getElem? ht)
                generalize c.k = ck9 at *
                clear hce hz ht hc hbi
                by_cases hx : t.x = []
                · have hct := fun k => ckT_const (M := Mj) (k := k) hx
                  rw [hx] at p0
                  by_cases hkk : t.k = ck9
                  · have hb : (t.k != ck9) = false := by simp [hkk]
                    have hst := HSTT.out (by simp only [hct, hkk]; rfl)
                    simp only [hct] at hst
                    have HR2 := Lib.hid (HRJJ.out.trans hst)
                    clear hkk hct hx hst
                    go_wp2_with fail
                    go_roundw
                    case rel => exact ⟨j + 1, mj, Mj, va, ka, vc, kc, by omega, rfl, rfl, by go_num, by omega, HMJ, HR2, HKJ, HQJ, HBJ⟩
                    case measure => simp [intOf]; omega
                  · have hb : (t.k != ck9) = true := by simpa using hkk
                    have h95 : R.1 = 95 := by
                      rw [HRJJ.out, HSOT.out (by simp only [hct]; rw [if_neg hkk]; decide)]
                      simp only [hct]
                      rw [if_neg hkk]
                    have hr := HRJ.out.trans (HSO.out (by rw [h95]; decide))
                    rw [h95] at hr
                    subst hr
                    clear hkk hct hx h95
                    go_wp2_with fail
                    go_ret2
                    exact ⟨by first | rfl | simp, HKJ.out.below⟩
                · have he2 : t.x.isEmpty = false := by
                    cases hxx : t.x with
                    | nil => exact absurd hxx hx
                    | cons _ _ => rfl
                  have he3 : (!t.x.isEmpty) = true := by rw [he2]; rfl
                  have hx0 := ba_empty hx
                  have hst : StrsAt wi (.slice va mj vc) (kmL Mj) := OwnS.strs HKJ.out.vars (by rw [kmL_len, HMJ.out]; omega)
                  have hat := refAt_any wi (.slice va mj vc) (kmL Mj) t.x hst
                  have HX := Lib.hid hx
                  clear hst hx
                  by_cases hmem : t.x ∈ kmL Mj
                  · have hct := fun k => ckT_old (k := k) HX.out hmem
                    have hkf := kmF_at hmem
                    have hil := List.idxOf_lt_length_of_mem hmem
                    rw [kmL_len, HMJ.out] at hil
                    rw [idxI_in hmem] at hat
                    obtain ⟨kf, hkv⟩ : ∃ kf, kmF Mj t.x = kf := ⟨_, rfl⟩
                    rw [hkv] at hkf
                    simp only [hkv] at hct
                    obtain ⟨kg, kcap, hkvv, hkgl, u0⟩ := KindsO.get HKJ.out.kinds hkf
                    rw [List.length_map, HMJ.out] at hkvv
                    simp only [Value.slice.injEq, true_and] at hkvv
                    obtain ⟨rfl, rfl⟩ := hkvv
                    generalize (kmL Mj).idxOf t.x = p at *
                    have HAT := Lib.hid hat
                    have hp1 : decide ((p : Int) < 0) = false := by simp
                    have hp2 : decide ((mj : Int) ≤ (p : Int)) = false := by simp; omega
                    have hp3 : decide (0 ≤ (p : Int)) = true := by simp
                    clear hat hmem hkf hkv
                    by_cases hkk : kf = ck9
                    · have hb : (kf != ck9) = false := by simp [hkk]
                      have hst := HSTT.out (by simp only [hct, hkk]; rfl)
                      simp only [hct] at hst
                      have HR2 := Lib.hid (HRJJ.out.trans hst)
                      clear hkk hct hst
                      go_wp2_with fail
                      refine HAT.out.mono ?_
                      rintro e w7 ⟨rfl, rfl⟩
                      go_wp2_with fail
                      go_roundw
                      case rel => exact ⟨j + 1, mj, Mj, _, _, _, _, by omega, rfl, rfl, by go_num, by omega, HMJ, HR2, HKJ, HQJ, HBJ⟩
                      case measure => simp [intOf]; omega
                    · have hb : (kf != ck9) = true := by simpa using hkk
                      have h96 : R.1 = 96 := by
                        rw [HRJJ.out, HSOT.out (by simp only [hct]; rw [if_neg hkk]; decide)]
                        simp only [hct]
                        rw [if_neg hkk]
                      have hr := HRJ.out.trans (HSO.out (by rw [h96]; decide))
                      rw [h96] at hr
                      subst hr
                      clear hkk hct h96
                      go_wp2_with fail
                      refine HAT.out.mono ?_
                      rintro e w7 ⟨rfl, rfl⟩
                      go_wp2_with fail
                      go_ret2
                      exact ⟨by first | rfl | simp, HKJ.out.below⟩
                  · have hct := fun k => ckT_new (k := k) HX.out hmem
                    rw [idxI_out hmem] at hat
                    have hst := HSTT.out (by simp only [hct])
                    simp only [hct] at hst
                    have HR2 := Lib.hid (HRJJ.out.trans hst)
                    have hvs : wi.ownsRow w.heap.size 9 1 (.slice va mj vc) mj ((kmL Mj).map fun s => .string ⟨s.toArray⟩) := by
                      have := HKJ.out.vars
                      unfold OwnS at this
                      rw [kmL_len, HMJ.out] at this
                      exact this
                    have hks : wi.ownsRow w.heap.size 63 1 (.slice ka mj kc) mj ((Mj.map (·.2)).map fun p => .int .i64 p) := by
                      have := HKJ.out.kinds
                      unfold KindsO at this
                      rw [List.length_map, HMJ.out] at this
                      exact this
                    have HVS := Lib.hid hvs
                    have HKS := Lib.hid hks
                    have HAT := Lib.hid hat
                    have hwi := HKJ.out.below.size
                    clear hct hst hat hmem hvs hks
                    go_wp2_with fail
                    refine HAT.out.mono ?_
                    rintro e w7 ⟨rfl, rfl⟩
                    go_wp2_with (at_builtin; refine wpList_append_lies _ rfl (.tmp 104) (.tmp 111) 31 rfl w.heap.size 9 is (.string ⟨#[]⟩) 1 16 Tryz.underlying31 his hi0 hi1 hi2 rfl (by decide) (.slice va mj vc) mj _ rfl (HVS.out.alloc _) ⟨_, 0, none⟩ 1 1 [.string ⟨t.x.toArray⟩] rfl rfl (World.news_of_block (Blk.new _ _ _)) (by simp [Value.oneCell']) (by decide) ?c3 ?c5 ?c4 _ rfl ?_)
                    case c3 => unfold maxLen; omega
                    case c5 => omega
                    case c4 => simp; omega
                    intro g cap1 w8 hown8 hgrow8 hat8 hlt8
                    have m8 : MT w.heap.size [9] wi w8 := ((MT.refl wi).alloc _).grown hgrow8 (HVS.out.alloc _) (by simp) (Nat.le_refl _)
                    have hks8 := m8.ownsRow HKS.out (by decide)
                    have HM8 := Lib.hid m8
                    have HKS8 := Lib.hid hks8
                    have HV8 := Lib.hid hown8
                    have hw8 : w.heap.size ≤ w8.heap.size := Nat.le_trans hwi (m8.below hwi).size
                    clear m8 hks8 hown8 hgrow8 hat8 hlt8
                    go_wp2_with (at_builtin; refine wpList_append_lies _ rfl (.tmp 113) (.tmp 115) 101 rfl w.heap.size 63 ik (.int .i64 0) 1 8 Tryz.underlying101 hik hk0 hk1 hk2 rfl (by decide) (.slice ka mj kc) mj _ rfl (HKS8.out.alloc _) ⟨_, 0, none⟩ 1 1 [.int .i64 ck9] rfl rfl (World.news_of_block (Blk.new _ _ _)) (by simp [Value.oneCell']) (by decide) ?d3 ?d5 ?d4 _ rfl ?_)
                    case d3 => unfold maxLen; omega
                    case d5 => omega
                    case d4 => simp; omega
                    intro g2 cap2 w9 hown9 hgrow9 hat9 hlt9
                    have m9 : MT w.heap.size [63] w8 w9 := ((MT.refl w8).alloc _).grown hgrow9 (HKS8.out.alloc _) (by simp) (Nat.le_refl _)
                    have hrk9 : RK w w9 (.slice (some ⟨g, 0, none⟩) (mj + 1) cap1) (.slice (some ⟨g2, 0, none⟩) (mj + 1) cap2) (Mj ++ [(t.x, ck9)]) := by
                      refine ⟨?_, ?_, (HKJ.out.below.trans (HM8.out.below hwi)).trans (m9.below hw8)⟩
                      · unfold OwnS
                        rw [kmL_snoc, List.length_append, kmL_len, HMJ.out, List.map_append]
                        exact m9.ownsRow HV8.out (by decide)
                      · unfold KindsO
                        rw [List.length_map, List.length_append, HMJ.out]
                        simpa using hown9
                    have HRK9 := Lib.hid hrk9
                    have HQ9 := Lib.hid ((HQJ.out.mt HM8.out (by decide)).mt m9 (by decide))
                    have HB9 := Lib.hid ((HBJ.out.mt HM8.out (by decide)).mt m9 (by decide))
                    clear m9 hrk9 hown9 hgrow9 hat9 hlt9
                    go_wp2_with fail
                    go_roundw
                    case rel => exact ⟨j + 1, mj + 1, _, _, _, _, _, by omega, rfl, rfl, by go_num, by omega, Lib.hid (by rw [List.length_append, HMJ.out]; rfl), HR2, HRK9, HQ9, HB9⟩
                    case measure => simp [intOf]; omega
              · obtain rfl : j = tn := by omega
                have hrj := HRJJ.out
                rw [ckTs_end (by rw [List.length_zip, HTN.out]; exact Nat.min_le_left _ _)] at hrj
                have HRN := Lib.hid (HRJ.out.trans (HST.out (by rw [hrj])))
                rw [hrj] at HRN
                clear hrj
                go_wp2_with fail
                go_roundw
                case rel => exact ⟨i + 1, mj, Mj, _, _, _, _, by omega, rfl, rfl, by go_num, by omega, HMJ, HRN, HKJ, HQJ⟩
                case measure => simp [intOf]; omega
          · have hnn : ((cn : Int) != (tn : Int)) = true := by simpa using fun e => hcn5 (by omega)
            have hR := HCW2.out hcn5
            have hr := HRJ.out.trans (HSO.out (by rw [hR]; show (94 : Int) ≠ 0; decide))
            rw [hR] at hr
            subst hr
            go_wp2_with fail
            go_quiet (fail)
            go_wp2_with fail
            go_ret2
            exact ⟨by first | rfl | simp, (HK5.out.keep (bdrewN (Below.refl _ _) _)).below⟩
      · obtain rfl : i = n := by omega
        have hr := HRJ.out
        rw [ckL_end (by rw [HN.out]; exact Nat.le_refl _)] at hr
        subst hr
        go_wp2_with fail
        go_ret2
        exact ⟨rfl, HK.out.below⟩
  · have q0 : (ck != 0) = true := by simpa using hck0
    have hr := HZ0.out hck0
    subst hr
    clear hck0 HZ0 HZ1 HRT
    go_enter Tryz.func16, Tryz.ntmps16
    go_wp2_with fail
    rw [HW0.out]
    refine HSH.out.mono ?_
    rintro e w1 ⟨rfl, hb1⟩
    have HB1 := Lib.hid (HB0.out.trans (hb1.mono HB0.out.size))
    clear hb1 HSH
    go_wp2_with fail
    go_ret2
    exact ⟨rfl, HB1.out⟩
end Go.Proofs.YtgilflkgibfjgaaGreatDoor
namespace Go.Proofs.YtgilflkgibfjgaaGreatDoor
open Go.ChangeShapes Go.WideShapes Go.ChangeAt Go.RowKit Go.Deep
set_option linter.unusedVariables false
section
variable {H : Type} {enc : TypeId × Value → H} {w : World} {spare : Nat → Bool} {held : Bool}
set_option maxRecDepth 100000 in
theorem col_openR {n : Nat} {row : List Value} {d : DataW H} {Pl : List MemPlace} (h : DataW.trod enc Tryz.prog w 0 spare held n 104 row = some (d, Pl)) :
    ∃ c : Col, row = c.cells ∧ d = .agg [.lit (.string c.x), .lit (.int .i64 c.k)] ∧ RangeK c.k := by
  obtain ⟨y0, y1, m, hx, hl, h0, h1⟩ := trod_struct2 Tryz.underlying104 h
  have hc : Tryz.prog.cellsOf 104 = 2 := by kernel_rfl
  have c0 : Tryz.prog.cellsOf 9 = 1 := by kernel_rfl
  have c1 : Tryz.prog.cellsOf 63 = 1 := by kernel_rfl
  rw [hc] at hl
  obtain ⟨a, b, rfl⟩ := len2 hl
  · simp only [c0, c1, List.drop_zero, List.take_succ_cons, List.take_zero, List.drop_succ_cons] at h0 h1
    obtain ⟨s, e0, f0, _⟩ := DataW.trod_string Tryz.underlying9 h0
    obtain ⟨k, e1, f1, wq⟩ := DataW.trod_int Tryz.underlying63 h1
    simp only [List.cons.injEq, and_true] at e0 e1
    subst e0 e1
    refine ⟨⟨s.data.toList, k⟩, by simp [Col.cells], ?_, wf_bounds wq⟩
    simp only [Prod.mk.injEq] at hx
    rw [hx.1, f0, f1]
set_option maxRecDepth 100000 in
theorem cols_openR {t : TypeId} {fuel : Nat} {v : Value} {x : DataW H × List MemPlace} (ht : Tryz.prog.underlying t = some (.slice 104)) (h : DataW.trod enc Tryz.prog w 0 spare held fuel t [v] = some x) (hs : Sz Tryz.prog t x.1) :
    ∃ cs : List Col, ColsAt w v cs ∧ cs.length ≤ 5864062014634 ∧ ∀ c ∈ cs, c.x.length ≤ 140737488351232 ∧ RangeK c.k := by
  have hb : Tryz.prog.bytesOf 104 = 24 := by kernel_rfl
  obtain ⟨rows, hr, hd⟩ := open_rows (sz := 2) ht (by kernel_rfl) (by decide) h (fun el sp e => by
    have := (e ▸ hs).len ht
    rw [hb] at this
    omega)
  rcases hd with ⟨rfl, _⟩ | ⟨el, sp, e, hl, hi⟩
  · exact ⟨[], hr, Nat.zero_le _, by simp⟩
  · have hle := (e ▸ hs).len ht
    rw [hb, hl] at hle
    obtain ⟨m, hm⟩ := list_as (α := {u : Col // u.x.length ≤ 140737488351232 ∧ RangeK u.k}) (fun u => u.1.cells) rows (fun row hrow => by
      obtain ⟨i, hi'⟩ := List.getElem?_of_mem hrow
      obtain ⟨_, n, d, Pl, h1, h2⟩ := hi i row hi'
      obtain ⟨u, h3, h4, h5⟩ := col_openR h2
      exact ⟨⟨u, col_small h4 ((e ▸ hs).elem ht (List.mem_of_getElem? h1)), h5⟩, h3⟩)
    subst hm
    refine ⟨m.map (·.1), by simpa [ColsAt, Function.comp_def] using hr, by simp at hle ⊢; omega, fun u hu => ?_⟩
    obtain ⟨q, _, rfl⟩ := List.mem_map.1 hu
    exact q.2
set_option maxRecDepth 100000 in
theorem rel_openR {n : Nat} {row : List Value} {d : DataW H} {Pl : List MemPlace} (h : DataW.trod enc Tryz.prog w 0 spare held n 99 row = some (d, Pl)) (hs : Sz Tryz.prog 99 d) :
    ∃ a : Rln, RelC w row a ∧ a.name.length ≤ 140737488351232 ∧ ∀ c ∈ a.cols, c.x.length ≤ 140737488351232 ∧ RangeK c.k := by
  obtain ⟨y0, y1, m, hx, hl, h0, h1⟩ := trod_struct2 Tryz.underlying99 h
  have hc : Tryz.prog.cellsOf 99 = 2 := by kernel_rfl
  have c0 : Tryz.prog.cellsOf 9 = 1 := by kernel_rfl
  have c1 : Tryz.prog.cellsOf 97 = 1 := by kernel_rfl
  rw [hc] at hl
  simp only [Prod.mk.injEq] at hx
  rw [hx.1] at hs
  obtain ⟨a, b, rfl⟩ := len2 hl
  simp only [c0, c1, List.drop_zero, List.take_succ_cons, List.take_zero, List.drop_succ_cons] at h0 h1
  obtain ⟨s, e0, f0, _⟩ := DataW.trod_string Tryz.underlying9 h0
  simp only [List.cons.injEq, and_true] at e0
  subst e0
  obtain ⟨l, h2, h3, h4⟩ := cols_openR Tryz.underlying97 h1 (hs.field Tryz.underlying99 (j := 1) rfl rfl)
  have h5 := (hs.field Tryz.underlying99 (j := 0) (u := 9) (d := .lit (.string s.data.toList)) rfl (by rw [f0]; rfl)) s.data.toList.length (by simp [DataW.weights])
  exact ⟨⟨s.data.toList, l⟩, ⟨b, by simp, h2, h3⟩, by simpa [reachBytes] using h5, h4⟩
set_option maxRecDepth 100000 in
theorem rels_argR {base : Nat} {v : Value} {d : DataW H} {p : List MemPlace} (hv : Value.okWide Tryz.prog w .any base 35 v) (h : DataW.Trod enc Tryz.prog w 0 spare held 35 v d p) (hs : Sz Tryz.prog 35 d) :
    ∃ l : List Rln, RelsAt w v l ∧ (∀ c ∈ l, c.name.length ≤ 140737488351232 ∧ ∀ x ∈ c.cols, x.x.length ≤ 140737488351232 ∧ RangeK x.k) ∧ l.length ≤ 3518437208780 := by
  have hb : Tryz.prog.bytesOf 99 = 40 := by kernel_rfl
  obtain ⟨a0, len, cap, rfl⟩ := okWide_slice Tryz.underlying35 hv
  obtain ⟨n, hn⟩ := h
  obtain ⟨rows, hr, hd⟩ := open_rows (sz := 2) (x := (d, p)) Tryz.underlying35 (by kernel_rfl) (by decide) (by simpa [Value.cells] using hn) (fun el sp e => by
    have e' : d = .slice el sp := e
    have hs' := hs
    rw [e'] at hs'
    have := hs'.len Tryz.underlying35
    rw [hb] at this
    omega)
  rcases hd with ⟨rfl, _⟩ | ⟨el, sp, e, hl, hi⟩
  · exact ⟨[], ⟨[], hr, trivial⟩, by simp, Nat.zero_le _⟩
  · have e' : d = .slice el sp := e
    have hs' := hs
    rw [e'] at hs'
    have hse := fun d' (hd : d' ∈ el) => hs'.elem Tryz.underlying35 hd
    have hle := hs'.len Tryz.underlying35
    rw [hb, hl] at hle
    obtain ⟨al, hal⟩ := all2_of (fun (row : List Value) (a : {a : Rln // a.name.length ≤ 140737488351232 ∧ ∀ c ∈ a.cols, c.x.length ≤ 140737488351232 ∧ RangeK c.k}) => RelC w row a.1) rows (fun row hrow => by
      obtain ⟨i, hi'⟩ := List.getElem?_of_mem hrow
      obtain ⟨_, n', d', Pl, hdi, hti⟩ := hi i row hi'
      obtain ⟨a, h1, h2⟩ := rel_openR hti (hse _ (List.mem_of_getElem? hdi))
      exact ⟨⟨a, h2⟩, h1⟩)
    have h2 : All2 (RelC w) rows (al.map (·.1)) := by
      clear hi hse hl hle hr
      induction rows generalizing al with
      | nil => cases al with
        | nil => trivial
        | cons _ _ => exact hal.elim
      | cons p z ih => cases al with
        | nil => exact hal.elim
        | cons a al => exact ⟨hal.1, ih al hal.2⟩
    have hll := h2.length
    refine ⟨al.map (·.1), ⟨rows, hr, h2⟩, fun c hc => ?_, by omega⟩
    obtain ⟨q, _, rfl⟩ := List.mem_map.1 hc
    exact q.2
end
end Go.Proofs.YtgilflkgibfjgaaGreatDoor
namespace Go.Proofs.YtgilflkgibfjgaaGreatDoor
open Go.RowKit
set_option linter.unusedVariables false

set_option maxHeartbeats 8000000 in
set_option maxRecDepth 100000 in
theorem qchecks_law (nm : ByteArray) (hv av u : Value) {hd : List (List UInt8)} {al : List Atm} (w : World) (h : BigQ w nm hv av hd al) {d : List Rln} (hr : RelsAt w u d) (hdz : ∀ c ∈ d, c.name.length ≤ 140737488351232 ∧ ∀ x ∈ c.cols, x.x.length ≤ 140737488351232 ∧ RangeK x.k) (hdn : d.length ≤ 3518437208780) (hg : Glob w) :
    Calls Tryz.prog 4 #[.agg #[.string nm, hv, av], u] w fun e w' => e = .returned (.bool true) ∧ Below w.heap.size w w' := by
  have hb0 : Below w.heap.size w (w.alloc (.cells #[.string nm, hv, av] 34)) := balloc (Below.refl _ _) _
  have hbx := Blk.new w 34 #[.string nm, hv, av]
  have hv0 := h.head.keep hb0
  have ht0 := h.atoms.keep hb0
  have hnz : nm.size ≤ 140737488355328 := by have := h.name; omega
  have hdx : ∀ s ∈ hd, s.length ≤ 140737488355328 := fun s hs => by have := h.heads s hs; omega
  have hlens := h.lens
  have hk : ∀ r ∈ d, ∀ c ∈ r.cols, RangeK c.k := fun r hr c hc => ((hdz r hr).2 c hc).2
  have hdl : ∀ c ∈ d, c.cols.length ≤ 5864062014634 := fun c hc => by
    obtain ⟨i, hi⟩ := List.getElem?_of_mem hc
    obtain ⟨_, _, _, _, _, _, _, _, _, _, _, h9⟩ := hr.get hi
    exact h9
  have HCP := Lib.hid (copyQ_any _ nm hv av hd al hv0 ht0 h.len)
  have HBX := Lib.hid hbx
  have HB0 := Lib.hid hb0
  have HV := Lib.hid hv0
  have HT := Lib.hid ht0
  have HRL := Lib.hid (hr.keep hb0)
  have HG := Lib.hid hg
  have HDX := Lib.hid hdx
  have HLN := Lib.hid hlens
  have HK := Lib.hid hk
  have HDL := Lib.hid hdl
  obtain ⟨va, vc, rfl, _, _⟩ := h.head.form
  obtain ⟨aa, ac, rfl, _, _⟩ := h.atoms.form
  obtain ⟨da, dc, rfl, _, _⟩ := hr.form
  clear h hb0 hbx hg hv0 ht0 hdx hlens hr hdz hk hdl
  obtain ⟨A1, A2, hA⟩ : ∃ A1 A2, ckQ ⟨nm.data.toList, hd, al⟩ d = (A1, A2) := ⟨_, _, rfl⟩
  have HA := Lib.hid hA
  clear hA
  go_enter Tryz.func4, Tryz.ntmps4
  go_wp2_with fail
  refine HCP.out.mono ?_
  rintro e w1 ⟨u1, u2, rfl, hu1, hu2, hb1⟩
  have hbb := HB0.out.trans (hb1.mono HB0.out.size)
  have HCR := Lib.hid (copyRels_any w1 _ d (HRL.out.keep hb1) hdn)
  have HU1 := Lib.hid hu1
  have HU2 := Lib.hid hu2
  have HB1 := Lib.hid hb1
  have HBW1 := Lib.hid hbb
  clear hu1 hu2 hb1 hbb HCP
  go_wp2_with fail
  refine HCR.out.mono ?_
  rintro e w2 ⟨dv, rfl, hown, hb2⟩
  have hat : RelsAt w2 dv d := RelsOwn.at hown (by omega) HDL.out
  have HQC := Lib.hid (qcheck_any w2 nm u1 u2 dv hd al d (HU1.out.keep hb2) (HU2.out.keep hb2) hat hnz HDX.out HLN.out HK.out)
  rw [HA.out] at HQC
  have HB2 := Lib.hid (bt2 HB1.out hb2)
  clear hown hat hb2 HCR
  go_wp2_with fail
  refine HQC.out.mono ?_
  rintro e w3 ⟨rfl, hb3⟩
  have hb3' := bt2 HB2.out hb3
  have bx3 := HBX.out.below hb3' HBX.out.lt
  have x0 := bx3.cell 0
  have x1 := bx3.cell 1
  have x2 := bx3.cell 2
  have xl := bx3.lt
  simp only [List.getElem?_toArray, List.getElem?_cons_zero, List.getElem?_cons_succ] at x0 x1 x2
  have HRC := Lib.hid (refQCheck_any w3 nm _ _ _ hd al d (HV.out.keep hb3') (HT.out.keep hb3') (HRL.out.keep hb3') hnz HDX.out HLN.out)
  rw [HA.out] at HRC
  have HB3 := Lib.hid (HB0.out.trans (hb3'.mono HB0.out.size))
  clear hb3 hb3' bx3 HQC
  go_wp2_with fail
  refine HRC.out.mono ?_
  rintro e w4 ⟨rfl, hb4⟩
  have hbb := HB3.out.trans (hb4.mono HB3.out.size)
  have HAW := Lib.hid (awake09 _ (HG.out.below hbb))
  have HB4 := Lib.hid hbb
  have k1 : (A1 == A1) = true := by simp
  have k2 : (A2 == A2) = true := by simp
  clear hb4 hbb HRC x0 x1 x2 xl
  go_wp2_with fail
  refine HAW.out.mono ?_
  rintro e w5 ⟨rfl, hb5⟩
  have HB5 := Lib.hid (HB4.out.trans (hb5.mono HB4.out.size))
  clear hb5
  go_wp2_with fail
  go_ret
  exact ⟨by first | rfl | simp, HB5.out⟩
end Go.Proofs.YtgilflkgibfjgaaGreatDoor
