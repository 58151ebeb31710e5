/- For QueryAlike: sizes of a plain form; Match told in one. -/
import Derived.Test.YtgilflkgibfjgaaDoorQpcZ
import Derived.Test.YtgilflkgibfjgaaDoorRm1Z
namespace Go.Proofs.YtgilflkgibfjgaaDoor
open Go.RowKit
set_option linter.unusedVariables false

theorem ownTrm {w : World} {B : Nat} {v : Value} {ts : List Trm} (h : w.ownsRow B 47 4 v ts.length (ts.map Trm.cells).flatten) (hn : ts.length ≤ 2932031007317) : RowAt w v 4 (ts.map Trm.cells) :=
  RowAt.ofOwn h (by simp) (trm_len _) (by simp; omega)
theorem ownVl {w : World} {B : Nat} {v : Value} {vs : List Vl} (h : w.ownsRow B 45 3 v vs.length (vs.map Vl.cells).flatten) (hn : vs.length ≤ 4398046511104) : RowAt w v 3 (vs.map Vl.cells) :=
  RowAt.ofOwn h (by simp) (vl_len _) (by simp; omega)
theorem ownVl' {w : World} {B : Nat} {v : Value} {vs : List Vl} (h : w.ownsRow B 45 3 v vs.length (vs.flatMap Vl.cells)) (hn : vs.length ≤ 4398046511104) : RowAt w v 3 (vs.map Vl.cells) :=
  ownVl (by rw [map_flatV]; exact h) hn
theorem matchR_len {ts : List Trm} {vs l : List Vl} (h : matchR ts vs = some l) : l.length ≤ ts.length := by
  by_cases hl : vs.length = ts.length
  · by_cases hk : okP (ts.zip vs)
    · rw [matchR_ok hl hk] at h
      simp only [Option.some.injEq] at h
      rw [← h, valsP_len]
      exact atomVars_len ts
    · rw [matchR_no hl hk] at h
      cases h
  · unfold matchR at h
    rw [if_neg hl] at h
    cases h

theorem varsL_len (ts : List Trm) : (varsL ts).length ≤ ts.length := by
  unfold varsL
  have := List.length_filter_le (fun x : List UInt8 => decide (x ≠ [])) (ts.map (·.x))
  simpa using this
theorem seen_len (q : Qry) : (seenQ q).length ≤ q.head.length + tsum q.atoms := by
  have h1 := fold_len (oldQ q) []
  have hf : ∀ l : List Atm, (l.flatMap fun a => varsL a.ts).length ≤ tsum l := by
    intro l
    induction l with
    | nil => simp [tsum]
    | cons b l ih =>
      have := varsL_len b.ts
      simp only [List.flatMap_cons, List.length_append, tsum, List.map_cons, List.sum_cons] at ih ⊢
      omega
  have h2 := hf q.atoms
  unfold seenQ
  have h3 : (oldQ q).length = q.head.length + (q.atoms.flatMap fun a => varsL a.ts).length := by
    unfold oldQ
    rw [List.length_append]
  simp only [List.length_nil] at h1
  omega
theorem vNo_small {L : List (List UInt8)} {s : List UInt8} (h : L.length ≤ 4194304) : (vNo L s).length ≤ 22 := by
  have h1 : L.idxOf s ≤ L.length := List.idxOf_le_length
  have h2 := Lib.itoa_length_le (L.idxOf s : Int) (by omega) (by omega)
  unfold vNo
  rw [List.length_cons]
  omega
theorem tsum_plain (L : List (List UInt8)) : ∀ al : List Atm, tsum (al.map (pAt L)) = tsum al
  | [] => rfl
  | a :: al => by
    have ih := tsum_plain L al
    unfold tsum at ih ⊢
    simp only [List.map_cons, List.sum_cons, ih, pAt, List.length_map]
theorem pTm_small {L : List (List UInt8)} {t : Trm} (h : L.length ≤ 4194304) : (pTm L t).x.length ≤ 22 := by
  unfold pTm
  split
  · rename_i hx
    rw [hx]
    exact Nat.zero_le _
  · exact vNo_small h
/-- What Match tells, in one. -/
theorem matchO_any (w : World) (rel : ByteArray) (tv rv : Value) (ts : List Trm) (vs : List Vl) (h : RowAt w tv 4 (ts.map Trm.cells)) (hr : RowAt w rv 3 (vs.map Vl.cells)) (hn : ts.length ≤ 2932031007317) (hv : vs.length ≤ 4398046511104) :
    Calls Tryd.prog 18 #[.agg #[.string rel, tv], rv] w fun e w' => ∃ va n c, e = .returned (.tuple #[.slice va n c, .bool (matchR ts vs).isSome]) ∧ RowAt w' (.slice va n c) 3 (((matchR ts vs).getD []).map Vl.cells) ∧ Below w.heap.size w w' := by
  refine (match_any w rel tv rv ts vs h hr hn hv).mono ?_
  intro e w' hp
  cases hm : matchR ts vs with
  | none =>
    rw [hm] at hp
    obtain ⟨rfl, hb⟩ := hp
    exact ⟨_, _, _, rfl, RowAt.nil _ _, hb⟩
  | some l =>
    rw [hm] at hp
    obtain ⟨v, rfl, ho, hb⟩ := hp
    have hl := matchR_len hm
    have hra : RowAt w' v 3 (l.map Vl.cells) := ownVl' ho (by omega)
    obtain ⟨va, c, rfl⟩ := own_sl ho
    exact ⟨_, _, _, rfl, hra, hb⟩
theorem alike_ne {L : List (List UInt8)} {s t : List UInt8} (hl : L.length ≤ 4194304) (hs : s ∈ L) (ht : t ∈ L) : (vNo L s = vNo L t) ↔ s = t :=
  ⟨vNo_inj (by omega) hs ht, fun e => by rw [e]⟩
/-- A query that was told anew. -/
def QAnew (name : ByteArray) (n na : Nat) (hd : List (List UInt8)) (al : List Atm) (w : World) (e : Ending) (w' : World) : Prop :=
  ∃ a1 c1 a2 c2, e = .returned (.agg #[.string name, .slice a1 n c1, .slice a2 na c2]) ∧ StrsAt w' (.slice a1 n c1) hd ∧ AtomsAt w' (.slice a2 na c2) al ∧ Below w.heap.size w w'
theorem copyF (w : World) (name : ByteArray) (hv av : Value) (hd : List (List UInt8)) (al : List Atm) {n na : Nat} (hn : hd.length = n) (hm : al.length = na) (hs : na ≤ 1048576) (h1 : StrsAt w hv hd) (h2 : AtomsAt w av al) :
    Calls Tryd.prog 13 #[.agg #[.string name, hv, av]] w (QAnew name n na hd al w) := by
  subst hn hm
  refine (copyQ_any w name hv av hd al h1 h2 (by omega)).mono ?_
  rintro e w1 ⟨hv1, av1, rfl, hs1, ha1, hb1⟩
  obtain ⟨ia, ic, rfl, _, _⟩ := hs1.form
  obtain ⟨ja, jc, rfl, _, _⟩ := ha1.form
  exact ⟨_, _, _, _, rfl, hs1, ha1, hb1⟩
/-- What bounds a query. -/
structure Bnd (hd : List (List UInt8)) (al : List Atm) (n na : Nat) : Prop where
  hn : hd.length = n
  hm : al.length = na
  hs : na ≤ 1048576
  hh : n ≤ 1048576
  ts : tsum al ≤ 1048576
  z1 : ∀ s ∈ hd, s.length ≤ 140737488351232
  z2 : ∀ a ∈ al, ∀ t ∈ a.ts, t.x.length ≤ 140737488351232
  z3 : ∀ a ∈ al, a.ts.length ≤ 2932031007317
theorem Bnd.seen {hd : List (List UInt8)} {al : List Atm} {n na : Nat} (h : Bnd hd al n na) (nm : List UInt8) : (seenQ ⟨nm, hd, al⟩).length ≤ 4194304 := by
  have h1 := seen_len ⟨nm, hd, al⟩
  have h2 := h.hn
  have h3 := h.hh
  have h4 := h.ts
  simp only at h1
  omega
theorem Bnd.plain {hd : List (List UInt8)} {al : List Atm} {n na : Nat} (h : Bnd hd al n na) {S : List (List UInt8)} (hS : S.length ≤ 4194304) : Bnd (hd.map (vNo S)) (al.map (pAt S)) n na := by
  refine ⟨by rw [List.length_map]; exact h.hn, by rw [List.length_map]; exact h.hm, h.hs, h.hh, by rw [tsum_plain]; exact h.ts, fun s hs => ?_, fun a ha t ht => ?_, fun a ha => ?_⟩
  · obtain ⟨u, _, rfl⟩ := List.mem_map.1 hs
    have := vNo_small (s := u) hS
    omega
  · obtain ⟨b, _, rfl⟩ := List.mem_map.1 ha
    obtain ⟨u, _, rfl⟩ := List.mem_map.1 (show t ∈ b.ts.map (pTm S) from ht)
    have := pTm_small (t := u) hS
    omega
  · obtain ⟨b, hb, rfl⟩ := List.mem_map.1 ha
    show (b.ts.map (pTm S)).length ≤ _
    rw [List.length_map]
    exact h.z3 b hb
theorem plainF (w : World) (name : ByteArray) (hv av : Value) {hd hd' : List (List UInt8)} {al al' : List Atm} {n na : Nat} (hb : Bnd hd al n na) (he : plainQ ⟨name.data.toList, hd, al⟩ = ⟨name.data.toList, hd', al'⟩) (h1 : StrsAt w hv hd) (h2 : AtomsAt w av al) (hg : Glob w) :
    Calls Tryd.prog 16 #[.agg #[.string name, hv, av]] w (QAnew name n na hd' al' w) := by
  have hS := hb.seen name.data.toList
  have hb' := hb.plain hS
  have e1 : hd' = hd.map (vNo (seenQ ⟨name.data.toList, hd, al⟩)) := (congrArg Qry.head he).symm
  have e2 : al' = al.map (pAt (seenQ ⟨name.data.toList, hd, al⟩)) := (congrArg Qry.atoms he).symm
  rw [← e1, ← e2] at hb'
  have hh := hb.hh
  have hs := hb.hs
  have hn := hb.hn
  have hm := hb.hm
  have hp := plainq_any w name hv av hd al h1 h2 (by omega) hb.ts (by omega) hb.z1 hb.z2 hg
  rw [he] at hp
  refine hp.mono ?_
  rintro e w4 ⟨pv, pa, rfl, ho4, hm4, hb4⟩
  have h3 := hb'.hn
  have h4 := hb'.hm
  simp only at ho4 hm4
  have hps : StrsAt w4 pv hd' := ho4.strs (by omega)
  obtain ⟨prows, hpr, hpa⟩ := hm4
  have hpt : AtomsAt w4 pa al' := atomsRowG hpr rfl hpa (by omega) hb'.z3
  obtain ⟨ia, ic, rfl, _, _⟩ := hps.form
  obtain ⟨ja, jc, rfl, _, _⟩ := hpt.form
  rw [h3] at hps ⊢
  rw [h4] at hpt ⊢
  exact ⟨_, _, _, _, rfl, hps, hpt, hb4⟩
end Go.Proofs.YtgilflkgibfjgaaDoor
