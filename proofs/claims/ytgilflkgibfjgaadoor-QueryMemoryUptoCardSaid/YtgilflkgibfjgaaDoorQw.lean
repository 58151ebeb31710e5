/- For QueryAlike: sizes of a plain form; Match told in one. For QueryMemory: what may be written over. For QueryMemory: a plain form and variables of the call's own. For QueryMemory: what is kept while p and v are written over. For QueryMemory: the document's Match told in one; a box's cells. -/
import Derived.Test.YtgilflkgibfjgaaDoorQpcZ
import Derived.Test.YtgilflkgibfjgaaDoorRm1Z
import Derived.Test.YtgilflkgibfjgaaDoorWrtZ
import Derived.Deep.MidRow
namespace Go.Proofs.YtgilflkgibfjgaaDoor
open Go.RowKit
set_option linter.unusedVariables false

theorem ownTrm {w : World} {B : Nat} {v : Value} {ts : List Trm} (h : w.ownsRow B 47 4 v ts.length (ts.map Trm.cells).flatten) (hn : ts.length ≤ 2932031007317) : RowAt w v 4 (ts.map Trm.cells) :=
  RowAt.ofOwn h (by simp) (trm_len _) (by simp; omega)
theorem ownVl {w : World} {B : Nat} {v : Value} {vs : List Vl} (h : w.ownsRow B 45 3 v vs.length (vs.map Vl.cells).flatten) (hn : vs.length ≤ 4398046511104) : RowAt w v 3 (vs.map Vl.cells) :=
  RowAt.ofOwn h (by simp) (vl_len _) (by simp; omega)
theorem ownVl' {w : World} {B : Nat} {v : Value} {vs : List Vl} (h : w.ownsRow B 45 3 v vs.length (vs.flatMap Vl.cells)) (hn : vs.length ≤ 4398046511104) : RowAt w v 3 (vs.map Vl.cells) :=
  ownVl (by rw [map_flatV]; exact h) hn
theorem matchR_len {ts : List Trm} {vs l : List Vl} (h : matchR ts vs = some l) : l.length ≤ ts.length := by
  by_cases hl : vs.length = ts.length
  · by_cases hk : okP (ts.zip vs)
    · rw [matchR_ok hl hk] at h
      simp only [Option.some.injEq] at h
      rw [← h, valsP_len]
      exact atomVars_len ts
    · rw [matchR_no hl hk] at h
      cases h
  · unfold matchR at h
    rw [if_neg hl] at h
    cases h

theorem varsL_len (ts : List Trm) : (varsL ts).length ≤ ts.length := by
  unfold varsL
  have := List.length_filter_le (fun x : List UInt8 => decide (x ≠ [])) (ts.map (·.x))
  simpa using this
theorem seen_len (q : Qry) : (seenQ q).length ≤ q.head.length + tsum q.atoms := by
  have h1 := fold_len (oldQ q) []
  have hf : ∀ l : List Atm, (l.flatMap fun a => varsL a.ts).length ≤ tsum l := by
    intro l
    induction l with
    | nil => simp [tsum]
    | cons b l ih =>
      have := varsL_len b.ts
      simp only [List.flatMap_cons, List.length_append, tsum, List.map_cons, List.sum_cons] at ih ⊢
      omega
  have h2 := hf q.atoms
  unfold seenQ
  have h3 : (oldQ q).length = q.head.length + (q.atoms.flatMap fun a => varsL a.ts).length := by
    unfold oldQ
    rw [List.length_append]
  simp only [List.length_nil] at h1
  omega
theorem vNo_small {L : List (List UInt8)} {s : List UInt8} (h : L.length ≤ 4194304) : (vNo L s).length ≤ 22 := by
  have h1 : L.idxOf s ≤ L.length := List.idxOf_le_length
  have h2 := Lib.itoa_length_le (L.idxOf s : Int) (by omega) (by omega)
  unfold vNo
  rw [List.length_cons]
  omega
theorem tsum_plain (L : List (List UInt8)) : ∀ al : List Atm, tsum (al.map (pAt L)) = tsum al
  | [] => rfl
  | a :: al => by
    have ih := tsum_plain L al
    unfold tsum at ih ⊢
    simp only [List.map_cons, List.sum_cons, ih, pAt, List.length_map]
theorem pTm_small {L : List (List UInt8)} {t : Trm} (h : L.length ≤ 4194304) : (pTm L t).x.length ≤ 22 := by
  unfold pTm
  split
  · rename_i hx
    rw [hx]
    exact Nat.zero_le _
  · exact vNo_small h
/-- What Match tells, in one. -/
theorem matchO_any (w : World) (rel : ByteArray) (tv rv : Value) (ts : List Trm) (vs : List Vl) (h : RowAt w tv 4 (ts.map Trm.cells)) (hr : RowAt w rv 3 (vs.map Vl.cells)) (hn : ts.length ≤ 2932031007317) (hv : vs.length ≤ 4398046511104) :
    Calls Tryd.prog 18 #[.agg #[.string rel, tv], rv] w fun e w' => ∃ va n c, e = .returned (.tuple #[.slice va n c, .bool (matchR ts vs).isSome]) ∧ RowAt w' (.slice va n c) 3 (((matchR ts vs).getD []).map Vl.cells) ∧ Below w.heap.size w w' := by
  refine (match_any w rel tv rv ts vs h hr hn hv).mono ?_
  intro e w' hp
  cases hm : matchR ts vs with
  | none =>
    rw [hm] at hp
    obtain ⟨rfl, hb⟩ := hp
    exact ⟨_, _, _, rfl, RowAt.nil _ _, hb⟩
  | some l =>
    rw [hm] at hp
    obtain ⟨v, rfl, ho, hb⟩ := hp
    have hl := matchR_len hm
    have hra : RowAt w' v 3 (l.map Vl.cells) := ownVl' ho (by omega)
    obtain ⟨va, c, rfl⟩ := own_sl ho
    exact ⟨_, _, _, rfl, hra, hb⟩
theorem alike_ne {L : List (List UInt8)} {s t : List UInt8} (hl : L.length ≤ 4194304) (hs : s ∈ L) (ht : t ∈ L) : (vNo L s = vNo L t) ↔ s = t :=
  ⟨vNo_inj (by omega) hs ht, fun e => by rw [e]⟩
/-- A query that was told anew. -/
def QAnew (name : ByteArray) (n na : Nat) (hd : List (List UInt8)) (al : List Atm) (w : World) (e : Ending) (w' : World) : Prop :=
  ∃ a1 c1 a2 c2, e = .returned (.agg #[.string name, .slice a1 n c1, .slice a2 na c2]) ∧ StrsAt w' (.slice a1 n c1) hd ∧ AtomsAt w' (.slice a2 na c2) al ∧ Below w.heap.size w w'
theorem copyF (w : World) (name : ByteArray) (hv av : Value) (hd : List (List UInt8)) (al : List Atm) {n na : Nat} (hn : hd.length = n) (hm : al.length = na) (hs : na ≤ 1048576) (h1 : StrsAt w hv hd) (h2 : AtomsAt w av al) :
    Calls Tryd.prog 13 #[.agg #[.string name, hv, av]] w (QAnew name n na hd al w) := by
  subst hn hm
  refine (copyQ_any w name hv av hd al h1 h2 (by omega)).mono ?_
  rintro e w1 ⟨hv1, av1, rfl, hs1, ha1, hb1⟩
  obtain ⟨ia, ic, rfl, _, _⟩ := hs1.form
  obtain ⟨ja, jc, rfl, _, _⟩ := ha1.form
  exact ⟨_, _, _, _, rfl, hs1, ha1, hb1⟩
/-- What bounds a query. -/
structure Bnd (hd : List (List UInt8)) (al : List Atm) (n na : Nat) : Prop where
  hn : hd.length = n
  hm : al.length = na
  hs : na ≤ 1048576
  hh : n ≤ 1048576
  ts : tsum al ≤ 1048576
  z1 : ∀ s ∈ hd, s.length ≤ 140737488351232
  z2 : ∀ a ∈ al, ∀ t ∈ a.ts, t.x.length ≤ 140737488351232
  z3 : ∀ a ∈ al, a.ts.length ≤ 2932031007317
theorem Bnd.seen {hd : List (List UInt8)} {al : List Atm} {n na : Nat} (h : Bnd hd al n na) (nm : List UInt8) : (seenQ ⟨nm, hd, al⟩).length ≤ 4194304 := by
  have h1 := seen_len ⟨nm, hd, al⟩
  have h2 := h.hn
  have h3 := h.hh
  have h4 := h.ts
  simp only at h1
  omega
theorem Bnd.plain {hd : List (List UInt8)} {al : List Atm} {n na : Nat} (h : Bnd hd al n na) {S : List (List UInt8)} (hS : S.length ≤ 4194304) : Bnd (hd.map (vNo S)) (al.map (pAt S)) n na := by
  refine ⟨by rw [List.length_map]; exact h.hn, by rw [List.length_map]; exact h.hm, h.hs, h.hh, by rw [tsum_plain]; exact h.ts, fun s hs => ?_, fun a ha t ht => ?_, fun a ha => ?_⟩
  · obtain ⟨u, _, rfl⟩ := List.mem_map.1 hs
    have := vNo_small (s := u) hS
    omega
  · obtain ⟨b, _, rfl⟩ := List.mem_map.1 ha
    obtain ⟨u, _, rfl⟩ := List.mem_map.1 (show t ∈ b.ts.map (pTm S) from ht)
    have := pTm_small (t := u) hS
    omega
  · obtain ⟨b, hb, rfl⟩ := List.mem_map.1 ha
    show (b.ts.map (pTm S)).length ≤ _
    rw [List.length_map]
    exact h.z3 b hb
theorem plainF (w : World) (name : ByteArray) (hv av : Value) {hd hd' : List (List UInt8)} {al al' : List Atm} {n na : Nat} (hb : Bnd hd al n na) (he : plainQ ⟨name.data.toList, hd, al⟩ = ⟨name.data.toList, hd', al'⟩) (h1 : StrsAt w hv hd) (h2 : AtomsAt w av al) (hg : Glob w) :
    Calls Tryd.prog 16 #[.agg #[.string name, hv, av]] w (QAnew name n na hd' al' w) := by
  have hS := hb.seen name.data.toList
  have hb' := hb.plain hS
  have e1 : hd' = hd.map (vNo (seenQ ⟨name.data.toList, hd, al⟩)) := (congrArg Qry.head he).symm
  have e2 : al' = al.map (pAt (seenQ ⟨name.data.toList, hd, al⟩)) := (congrArg Qry.atoms he).symm
  rw [← e1, ← e2] at hb'
  have hh := hb.hh
  have hs := hb.hs
  have hn := hb.hn
  have hm := hb.hm
  have hp := plainq_any w name hv av hd al h1 h2 (by omega) hb.ts (by omega) hb.z1 hb.z2 hg
  rw [he] at hp
  refine hp.mono ?_
  rintro e w4 ⟨pv, pa, rfl, ho4, hm4, hb4⟩
  have h3 := hb'.hn
  have h4 := hb'.hm
  simp only at ho4 hm4
  have hps : StrsAt w4 pv hd' := ho4.strs (by omega)
  obtain ⟨prows, hpr, hpa⟩ := hm4
  have hpt : AtomsAt w4 pa al' := atomsRowG hpr rfl hpa (by omega) hb'.z3
  obtain ⟨ia, ic, rfl, _, _⟩ := hps.form
  obtain ⟨ja, jc, rfl, _, _⟩ := hpt.form
  rw [h3] at hps ⊢
  rw [h4] at hpt ⊢
  exact ⟨_, _, _, _, rfl, hps, hpt, hb4⟩
end Go.Proofs.YtgilflkgibfjgaaDoor
namespace Go.Proofs.YtgilflkgibfjgaaDoor
open Go.RowKit
set_option linter.unusedVariables false

/-- A slice of atoms that may be written over, and the rows of their terms. -/
def AtW (F : Nat → Prop) (w : World) (a : Option Addr) (n : Nat) (T : List (Option Addr × Nat × Nat)) : Prop :=
  T.length = n ∧ (n = 0 ∨ ∃ g, a = some ⟨g, 0, none⟩ ∧ F g ∧ g < w.heap.size ∧ w.there g 0 (n * 2) ∧ ∀ (i : Nat) (t : Option Addr) (k c : Nat), T[i]? = some (t, k, c) →
    w.cell? ⟨g, i * 2 + 1, none⟩ = some (.slice t k c) ∧ k ≤ 2932031007317 ∧ Wrt (fun q => F q ∧ q ≠ g) w 4 t k)
theorem AtW.setRel {F : Nat → Prop} {w : World} {g n : Nat} {T : List (Option Addr × Nat × Nat)} (h : AtW F w (some ⟨g, 0, none⟩) n T) (i : Nat) (v : Value) : AtW F (w.setCells g (i * 2) [v]) (some ⟨g, 0, none⟩) n T := by
  refine ⟨h.1, h.2.imp id ?_⟩
  rintro ⟨g', hg, hF, hl, ht, he⟩
  injection hg with hg
  injection hg with hg _ _
  subst hg
  refine ⟨g, rfl, hF, Nat.lt_of_lt_of_le hl (size_setCells _ _ _ _), World.there_setCells ht _ _ _, fun j t k c hj => ?_⟩
  obtain ⟨h1, h2, h3⟩ := he j t k c hj
  refine ⟨?_, h2, h3.set _ _ _⟩
  rw [World.cell?_setCells_out g [v] (i * 2) w ⟨g, j * 2 + 1, none⟩ (fun _ _ => by
    simp only [List.length_cons, List.length_nil]
    omega)]
  exact h1
theorem AtW.setOther {F : Nat → Prop} {w : World} {a : Option Addr} {n : Nat} {T : List (Option Addr × Nat × Nat)} (h : AtW F w a n T) {b : Nat} (hb : a ≠ some ⟨b, 0, none⟩) (o : Nat) (vs : List Value) : AtW F (w.setCells b o vs) a n T := by
  refine ⟨h.1, h.2.imp id ?_⟩
  rintro ⟨g, rfl, hF, hl, ht, he⟩
  refine ⟨g, rfl, hF, Nat.lt_of_lt_of_le hl (size_setCells _ _ _ _), World.there_setCells ht _ _ _, fun j t k c hj => ?_⟩
  obtain ⟨h1, h2, h3⟩ := he j t k c hj
  refine ⟨?_, h2, h3.set _ _ _⟩
  have hm : Mod (fun q => q = b) w (w.setCells b o vs) := mod_setCellsQ (F := fun q => q = b) rfl _ _ _
  have hblk := hm.block g hl (fun e => hb (by rw [e]))
  rw [World.cell?_of_block hblk]
  exact h1
theorem flat4_len : ∀ l : List Trm, (l.flatMap Trm.cells).length = l.length * 4
  | [] => rfl
  | t :: l => by
    have ih := flat4_len l
    have h4 : t.cells.length = 4 := rfl
    rw [List.flatMap_cons, List.length_append, ih, List.length_cons, h4]
    omega
def tOf : List Value → Option Addr × Nat × Nat
  | [_, .slice t k c] => (t, k, c)
  | _ => (none, 0, 0)
theorem AtW.ofOwn {F : Nat → Prop} {B : Nat} {w : World} {a : Option Addr} {n c : Nat} {al : List Atm} (h : AtmsOwn B w (.slice a n c) al) (hn : al.length = n) (hs : n ≤ 1048576) (hz : ∀ x ∈ al, x.ts.length ≤ 2932031007317) (hF : ∀ g cur, (w.heap[g]? = some (.cells cur 33) ∨ w.heap[g]? = some (.cells cur 47)) → B ≤ g → F g) : ∃ T, AtW F w a n T := by
  obtain ⟨rows, h1, h2⟩ := h
  have hl := h2.length
  rw [hn] at h1
  refine ⟨rows.map tOf, by rw [List.length_map]; omega, ?_⟩
  rcases Nat.eq_zero_or_pos n with h0 | h0
  · exact .inl h0
  · have hrl : ∀ x ∈ rows, x.length = 2 := by
      intro x hx
      obtain ⟨_, _, tv, rfl, _⟩ := all2_mem h2 x hx
      rfl
    have hrow : RowAt w (.slice a n c) 2 rows := RowAt.ofOwn h1 (by omega) hrl (by omega)
    have hfl : rows.flatten.length = n * 2 := by
      have : ∀ l : List (List Value), (∀ x ∈ l, x.length = 2) → l.flatten.length = l.length * 2 := by
        intro l
        induction l with
        | nil => intro _; rfl
        | cons x l ih =>
          intro hx
          rw [List.flatten_cons, List.length_append, ih (fun y hy => hx y (List.mem_cons_of_mem _ hy)), hx x List.mem_cons_self, List.length_cons]
          omega
      rw [this rows hrl, hl, hn]
    rcases h1.2 with ⟨h3, _⟩ | ⟨g, cap, cur, hv, hb, hg, _⟩
    · simp only [Value.slice.injEq] at h3
      omega
    · simp only [Value.slice.injEq] at hv
      obtain ⟨rfl, _, rfl⟩ := hv
      have hgl : g < w.heap.size := (Array.getElem?_eq_some_iff.1 hg).1
      refine .inr ⟨g, rfl, hF g _ (.inl hg) hb, hgl, there_ofOwn h1 hfl, fun i t k c' hT => ?_⟩
      rw [List.getElem?_map] at hT
      obtain ⟨x, hx, hxT⟩ := Option.map_eq_some_iff.1 hT
      have hi := (List.getElem?_eq_some_iff.1 hx).1
      obtain ⟨at_, hat⟩ : ∃ y, al[i]? = some y := ⟨al[i]'(by omega), List.getElem?_eq_getElem (by omega)⟩
      obtain ⟨b', hb', tv, rfl, ho⟩ := h2.get hat
      rw [hx] at hb'
      simp only [Option.some.injEq] at hb'
      subst hb'
      obtain ⟨t', c'', rfl⟩ := own_sl ho
      simp only [tOf, Prod.mk.injEq] at hxT
      obtain ⟨rfl, rfl, rfl⟩ := hxT
      obtain ⟨b, off, cap', hv, _, _, _, hc⟩ := hrow.get hx
      simp only [Value.slice.injEq, Option.some.injEq, Addr.mk.injEq, and_true] at hv
      obtain ⟨⟨rfl, rfl⟩, _, _⟩ := hv
      have h5 := hc 1 _ rfl
      rw [Nat.zero_add] at h5
      refine ⟨h5, hz _ (List.mem_of_getElem? hat), Wrt.ofOwn ho (flat4_len _) ?_⟩
      rintro q rfl hq hBq
      rcases ho.2 with ⟨h6, _⟩ | ⟨g', cap2, cur2, hv2, _, hg2, _⟩
      · simp at h6
      · simp only [Value.slice.injEq, Option.some.injEq, Addr.mk.injEq, and_true, true_and] at hv2
        obtain ⟨rfl, _⟩ := hv2
        refine ⟨hF _ _ (.inr hg2) hBq, ?_⟩
        rintro rfl
        rw [hg] at hg2
        simp at hg2
end Go.Proofs.YtgilflkgibfjgaaDoor
namespace Go.Proofs.YtgilflkgibfjgaaDoor
open Go.RowKit
set_option linter.unusedVariables false

theorem plainW (w : World) (name : ByteArray) (hv av : Value) {hd hd' : List (List UInt8)} {al al' : List Atm} {n na : Nat} (hb : Bnd hd al n na) (he : plainQ ⟨name.data.toList, hd, al⟩ = ⟨name.data.toList, hd', al'⟩) (h1 : StrsAt w hv hd) (h2 : AtomsAt w av al) (hg : Glob w) :
    Calls Tryd.prog 16 #[.agg #[.string name, hv, av]] w fun e w' => ∃ a1 c1 a2 c2, e = .returned (.agg #[.string name, .slice a1 n c1, .slice a2 na c2]) ∧ OwnS w.heap.size w' (.slice a1 n c1) hd' ∧ AtmsOwn w.heap.size w' (.slice a2 na c2) al' ∧ Below w.heap.size w w' := by
  have hS := hb.seen name.data.toList
  have hb' := hb.plain hS
  have e1 : hd' = hd.map (vNo (seenQ ⟨name.data.toList, hd, al⟩)) := (congrArg Qry.head he).symm
  have e2 : al' = al.map (pAt (seenQ ⟨name.data.toList, hd, al⟩)) := (congrArg Qry.atoms he).symm
  rw [← e1, ← e2] at hb'
  have hh := hb.hh
  have hs := hb.hs
  have hn := hb.hn
  have hm := hb.hm
  have hp := plainq_any w name hv av hd al h1 h2 (by omega) hb.ts (by omega) hb.z1 hb.z2 hg
  rw [he] at hp
  refine hp.mono ?_
  rintro e w4 ⟨pv, pa, rfl, ho4, hm4, hb4⟩
  have h3 := hb'.hn
  have h4 := hb'.hm
  simp only at ho4 hm4
  obtain ⟨ia, ic, rfl⟩ := own_sl (show World.ownsRow _ _ _ _ _ _ _ from ho4)
  obtain ⟨prows, hpr, hpa⟩ := hm4
  obtain ⟨ja, jc, rfl⟩ := own_sl hpr
  rw [h3] at ho4 ⊢
  refine ⟨ia, ic, ja, jc, by rw [h4], ho4, ⟨prows, ?_, hpa⟩, hb4⟩
  rw [h4] at hpr ⊢
  exact hpr
/-- A told query in a box, and told variables, the call's own since B. -/
structure PV (B : Nat) (w : World) (name : ByteArray) (gp : Nat) (pa : Option Addr) (n pc : Nat) (pb : Option Addr) (na pd : Nat) (va : Option Addr) (nv vc : Nat) (PH : List (List UInt8)) (PA : List Atm) (QV : List (List UInt8)) : Prop where
  box : Blk w gp 25 #[.string name, .slice pa n pc, .slice pb na pd]
  le : B ≤ gp
  head : OwnS B w (.slice pa n pc) PH
  atoms : AtmsOwn B w (.slice pb na pd) PA
  vars : OwnS B w (.slice va nv vc) QV
theorem PV.keep {B : Nat} {w w' : World} {name : ByteArray} {gp : Nat} {pa pb va : Option Addr} {n pc na pd nv vc : Nat} {PH : List (List UInt8)} {PA : List Atm} {QV : List (List UInt8)} (h : PV B w name gp pa n pc pb na pd va nv vc PH PA QV) (hb : Below w.heap.size w w') : PV B w' name gp pa n pc pb na pd va nv vc PH PA QV := by
  have m : MT 0 [] w w' := MT.ofBelow hb
  exact ⟨h.box.below hb h.box.lt, h.le, m.ownsRow h.head (by simp), h.atoms.mt m (by simp) (by simp), m.ownsRow h.vars (by simp)⟩
/-- The box made behind the calls. -/
theorem PV.late {B : Nat} {w4 w5 : World} {name : ByteArray} {pa pb va : Option Addr} {n pc na pd nv vc b1 b2 : Nat} {PH : List (List UInt8)} {PA : List Atm} {QV : List (List UInt8)} (h1 : OwnS b1 w4 (.slice pa n pc) PH) (h2 : AtmsOwn b1 w4 (.slice pb na pd) PA) (hb : Below w4.heap.size w4 w5) (h3 : OwnS b2 w5 (.slice va nv vc) QV) (hB1 : B ≤ b1) (hB2 : B ≤ b2) (hB : B ≤ w5.heap.size) :
    PV B (w5.alloc (.cells #[.string name, .slice pa n pc, .slice pb na pd] 25)) name w5.heap.size pa n pc pb na pd va nv vc PH PA QV := by
  have m : MT 0 [] w4 w5 := MT.ofBelow hb
  have m2 : MT 0 [] w5 (w5.alloc (.cells #[.string name, .slice pa n pc, .slice pb na pd] 25)) := (MT.refl w5).alloc _
  obtain ⟨rows, k1, k2⟩ := (h2.mt m (by simp) (by simp)).mt m2 (by simp) (by simp)
  exact ⟨Blk.new _ _ _, hB, m2.ownsRow (m.ownsRow (World.ownsRow.low h1 hB1) (by simp)) (by simp), ⟨rows, World.ownsRow.low k1 hB1, k2.mono fun b x hx => by
    obtain ⟨tv, e, ho⟩ := hx
    exact ⟨tv, e, World.ownsRow.low ho hB1⟩⟩, m2.ownsRow (World.ownsRow.low h3 hB2) (by simp)⟩
/-- The box made ahead of the calls. -/
theorem PV.early {B y : Nat} {w4 w5 : World} {name : ByteArray} {pa pb va : Option Addr} {n pc na pd nv vc b1 b2 : Nat} {a' b' c' : Value} {PH : List (List UInt8)} {PA : List Atm} {QV : List (List UInt8)} (h1 : OwnS b1 w4 (.slice pa n pc) PH) (h2 : AtmsOwn b1 w4 (.slice pb na pd) PA) (hb : Below w4.heap.size w4 w5) (h3 : OwnS b2 w5 (.slice va nv vc) QV) (hB1 : B ≤ b1) (hB2 : B ≤ b2) (hB : B ≤ y) (hz : Blk w5 y 25 #[a', b', c']) :
    PV B (((w5.setCell ⟨y, 0, none⟩ (.string name)).setCell ⟨y, 1, none⟩ (.slice pa n pc)).setCell ⟨y, 2, none⟩ (.slice pb na pd)) name y pa n pc pb na pd va nv vc PH PA QV := by
  have m : MT 0 [] w4 w5 := MT.ofBelow hb
  have hs := set3_facts (a := .string name) (b := .slice pa n pc) (c := .slice pb na pd) hz
  obtain ⟨rows, k1, k2⟩ := (h2.mt m (by simp) (by simp)).mt hs.2.1 (by decide) (by decide)
  exact ⟨hs.1, hB, hs.2.1.ownsRow (m.ownsRow (World.ownsRow.low h1 hB1) (by simp)) (by decide), ⟨rows, World.ownsRow.low k1 hB1, k2.mono fun b x hx => by
    obtain ⟨tv, e, ho⟩ := hx
    exact ⟨tv, e, World.ownsRow.low ho hB1⟩⟩, hs.2.1.ownsRow (World.ownsRow.low h3 hB2) (by decide)⟩
end Go.Proofs.YtgilflkgibfjgaaDoor
namespace Go.Proofs.YtgilflkgibfjgaaDoor
open Go.RowKit
set_option linter.unusedVariables false

theorem own_ty {w : World} {B1 B2 : Nat} {e1 e2 : TypeId} {s1 s2 g n1 n2 c1 c2 : Nat} {x1 x2 : List Value} (h1 : w.ownsRow B1 e1 s1 (.slice (some ⟨g, 0, none⟩) n1 c1) n1 x1) (h2 : w.ownsRow B2 e2 s2 (.slice (some ⟨g, 0, none⟩) n2 c2) n2 x2) : e1 = e2 := by
  rcases h1.2 with ⟨h3, _⟩ | ⟨g1, cap1, cur1, hv1, _, hg1, _⟩
  · simp at h3
  rcases h2.2 with ⟨h4, _⟩ | ⟨g2, cap2, cur2, hv2, _, hg2, _⟩
  · simp at h4
  simp only [Value.slice.injEq, Option.some.injEq, Addr.mk.injEq, and_true, true_and] at hv1 hv2
  obtain ⟨rfl, _⟩ := hv1
  obtain ⟨rfl, _⟩ := hv2
  rw [hg1] at hg2
  simp only [Option.some.injEq, Obj.cells.injEq] at hg2
  exact hg2.2.1
theorem AtW.below {F : Nat → Prop} {w w' : World} {a : Option Addr} {n : Nat} {T : List (Option Addr × Nat × Nat)} (h : AtW F w a n T) (hb : Below w.heap.size w w') : AtW F w' a n T := by
  refine ⟨h.1, h.2.imp id ?_⟩
  rintro ⟨g, rfl, hF, hl, ht, he⟩
  have hm : Mod (fun _ => False) w w' := Mod.ofBelow hb
  have hblk := hm.block g hl (fun f => f)
  refine ⟨g, rfl, hF, Nat.lt_of_lt_of_le hl hm.size, fun j hj => ?_, fun j t k c hj => ?_⟩
  · obtain ⟨h1, h2⟩ := ht j hj
    refine ⟨?_, ?_⟩
    · rw [World.cell?_of_block hblk]; exact h1
    · rw [World.frozen?_of_block hblk]; exact h2
  · obtain ⟨h1, h2, h3⟩ := he j t k c hj
    refine ⟨?_, h2, h3.mod hm (fun _ _ f => f)⟩
    rw [World.cell?_of_block hblk]
    exact h1
theorem PV.modQ {G : Nat → Prop} {B : Nat} {w w' : World} {name : ByteArray} {gp : Nat} {pa pb va : Option Addr} {n pc na pd nv vc : Nat} {PH : List (List UInt8)} {PA : List Atm} {QV : List (List UInt8)} (h : PV B w name gp pa n pc pb na pd va nv vc PH PA QV) (hm : Mod G w w') (hG : ∀ g, G g → g < B) : PV B w' name gp pa n pc pb na pd va nv vc PH PA QV := by
  have ho : ∀ (e : TypeId) (sz k : Nat) (v : Value) (xs : List Value), w.ownsRow B e sz v k xs → w'.ownsRow B e sz v k xs := fun e sz k v xs hh => hm.ownsRow hh (fun q hq hg => by have := (World.ownsRow.lt hh q hq).1; have := hG q hg; omega)
  obtain ⟨rows, k1, k2⟩ := h.atoms
  exact ⟨h.box.modQ hm (fun hg => by have := hG _ hg; have := h.le; omega), h.le, ho _ _ _ _ _ h.head, ⟨rows, ho _ _ _ _ _ k1, k2.mono fun b x hx => by
    obtain ⟨tv, e, hh⟩ := hx
    exact ⟨tv, e, ho _ _ _ _ _ hh⟩⟩, ho _ _ _ _ _ h.vars⟩
/-- One atom of a slice that may be written over. -/
theorem AtW.at_ {F : Nat → Prop} {w : World} {a : Option Addr} {n i : Nat} {T : List (Option Addr × Nat × Nat)} (h : AtW F w a n T) (hi : i < n) : ∃ g t k c u, a = some ⟨g, 0, none⟩ ∧ F g ∧ g < w.heap.size ∧ T[i]? = some (t, k, c) ∧ w.cell? ⟨g, i * 2, none⟩ = some u ∧ w.frozen? ⟨g, i * 2, none⟩ = false ∧
    w.cell? ⟨g, i * 2 + 1, none⟩ = some (.slice t k c) ∧ k ≤ 2932031007317 ∧ Wrt (fun q => F q ∧ q ≠ g) w 4 t k := by
  obtain ⟨hl, h | ⟨g, rfl, hF, hg, ht, he⟩⟩ := h
  · omega
  · obtain ⟨⟨t, k, c⟩, hT⟩ : ∃ x, T[i]? = some x := ⟨T[i]'(by omega), List.getElem?_eq_getElem (by omega)⟩
    obtain ⟨h1, h2⟩ := ht (i * 2) (by omega)
    rw [Nat.zero_add] at h1 h2
    obtain ⟨u, hu⟩ := Option.isSome_iff_exists.1 h1
    obtain ⟨h3, h4, h5⟩ := he i t k c hT
    exact ⟨g, t, k, c, u, rfl, hF, hg, hT, hu, h2, h3, h4, h5⟩
theorem flat3_len : ∀ l : List Vl, (l.flatMap Vl.cells).length = l.length * 3
  | [] => rfl
  | t :: l => by
    have ih := flat3_len l
    have h4 : t.cells.length = 3 := rfl
    rw [List.flatMap_cons, List.length_append, ih, List.length_cons, h4]
    omega
/-- What Match tells may be written over. -/
theorem matchW_any (w : World) (rel : ByteArray) (tv rv : Value) (ts : List Trm) (vs : List Vl) (h : RowAt w tv 4 (ts.map Trm.cells)) (hr : RowAt w rv 3 (vs.map Vl.cells)) (hn : ts.length ≤ 2932031007317) (hv : vs.length ≤ 4398046511104) :
    Calls Tryd.prog 18 #[.agg #[.string rel, tv], rv] w fun e w' => ∃ va n c, e = .returned (.tuple #[.slice va n c, .bool (matchR ts vs).isSome]) ∧ Wrt (fun g => w.heap.size ≤ g) w' 3 va n ∧ n ≤ 2932031007317 ∧ Below w.heap.size w w' := by
  refine (match_any w rel tv rv ts vs h hr hn hv).mono ?_
  intro e w' hp
  cases hm : matchR ts vs with
  | none =>
    rw [hm] at hp
    obtain ⟨rfl, hb⟩ := hp
    exact ⟨_, _, _, rfl, .inl rfl, Nat.zero_le _, hb⟩
  | some l =>
    rw [hm] at hp
    obtain ⟨v, rfl, ho, hb⟩ := hp
    have hl := matchR_len hm
    obtain ⟨va, c, rfl⟩ := own_sl ho
    exact ⟨_, _, _, rfl, Wrt.ofOwn ho (flat3_len l) (fun g _ _ hg => hg), by omega, hb⟩
/-- While p and v are written over. -/
structure QM (F : Nat → Prop) (W wr : World) (ga : Option Addr) (n : Nat) (ta : Option Addr) (nv : Nat) (gb : Option Addr) (na : Nat) (T : List (Option Addr × Nat × Nat)) : Prop where
  mod : Mod F W wr
  head : Wrt F wr 1 ga n
  vars : Wrt F wr 1 ta nv
  atoms : AtW F wr gb na T
  ne1 : ∀ g, ga = some ⟨g, 0, none⟩ → gb ≠ some ⟨g, 0, none⟩
  ne2 : ∀ g, ta = some ⟨g, 0, none⟩ → gb ≠ some ⟨g, 0, none⟩
variable {F : Nat → Prop} {W wr : World} {ga ta gb : Option Addr} {n nv na : Nat} {T : List (Option Addr × Nat × Nat)}
theorem QM.set (h : QM F W wr ga n ta nv gb na T) {g : Nat} (hF : F g) (hb : gb ≠ some ⟨g, 0, none⟩) (o : Nat) (vs : List Value) : QM F W (wr.setCells g o vs) ga n ta nv gb na T :=
  ⟨h.mod.trans (mod_setCellsQ hF _ _ _) (fun _ _ f => f), h.head.set _ _ _, h.vars.set _ _ _, h.atoms.setOther hb _ _, h.ne1, h.ne2⟩
theorem QM.setRel {g : Nat} (h : QM F W wr ga n ta nv (some ⟨g, 0, none⟩) na T) (hF : F g) (i : Nat) (v : Value) : QM F W (wr.setCells g (i * 2) [v]) ga n ta nv (some ⟨g, 0, none⟩) na T :=
  ⟨h.mod.trans (mod_setCellsQ hF _ _ _) (fun _ _ f => f), h.head.set _ _ _, h.vars.set _ _ _, h.atoms.setRel i v, h.ne1, h.ne2⟩
theorem QM.start {B : Nat} {W3 W4 : World} {name : ByteArray} {gp pc pd vc : Nat} {PH : List (List UInt8)} {PA : List Atm} {QV : List (List UInt8)} (h : PV B W3 name gp ga n pc gb na pd ta nv vc PH PA QV) (hn : PH.length = n) (hv : QV.length = nv) (hm : PA.length = na) (hs : na ≤ 1048576) (hz : ∀ x ∈ PA, x.ts.length ≤ 2932031007317) (hb : Below W3.heap.size W3 W4) :
    ∃ T, QM (fun g => B ≤ g ∧ g < W3.heap.size ∧ g ≠ gp) W4 W4 ga n ta nv gb na T := by
  have hgp : ∀ (g : Nat) (e : TypeId) (cur : Array Value), W3.heap[g]? = some (.cells cur e) → e ≠ 25 → g ≠ gp := by
    rintro g e cur hg he rfl
    have hx : W3.heap[g]? = _ := h.box
    rw [hg] at hx
    simp only [Option.some.injEq, Obj.cells.injEq] at hx
    exact he hx.2.1
  have hlt : ∀ (g : Nat) (e : TypeId) (cur : Array Value), W3.heap[g]? = some (.cells cur e) → g < W3.heap.size := fun g e cur hg => (Array.getElem?_eq_some_iff.1 hg).1
  have hstr : ∀ (a : Option Addr) (k c : Nat) (l : List (List UInt8)), OwnS B W3 (.slice a k c) l → l.length = k → Wrt (fun g => B ≤ g ∧ g < W3.heap.size ∧ g ≠ gp) W3 1 a k := by
    intro a k c l ho hl
    subst hl
    refine Wrt.ofOwn (show World.ownsRow _ _ _ _ _ _ _ from ho) (by simp) ?_
    rintro g rfl h1 h2
    rcases (show World.ownsRow _ _ _ _ _ _ _ from ho).2 with ⟨h3, _⟩ | ⟨g1, cap1, cur1, hv1, _, hg1, _⟩
    · simp at h3
    · simp only [Value.slice.injEq, Option.some.injEq, Addr.mk.injEq, and_true, true_and] at hv1
      obtain ⟨rfl, _⟩ := hv1
      exact ⟨h2, h1, hgp _ _ _ hg1 (by decide)⟩
  obtain ⟨T, hT⟩ := AtW.ofOwn (F := fun g => B ≤ g ∧ g < W3.heap.size ∧ g ≠ gp) h.atoms hm hs hz (fun g cur hg hB => ⟨hB, by rcases hg with hg | hg <;> exact hlt _ _ _ hg, by rcases hg with hg | hg <;> exact hgp _ _ _ hg (by decide)⟩)
  have hne : ∀ (a : Option Addr) (k c : Nat) (l : List (List UInt8)), OwnS B W3 (.slice a k c) l → l.length = k → ∀ g, a = some ⟨g, 0, none⟩ → gb ≠ some ⟨g, 0, none⟩ := by
    rintro a k c l ho hl g rfl rfl
    subst hl
    obtain ⟨rows, hr, _⟩ := h.atoms
    rw [hm] at hr
    exact absurd (own_ty (show World.ownsRow _ _ _ _ _ _ _ from ho) hr) (by decide)
  have m : Mod (fun _ => False) W3 W4 := Mod.ofBelow hb
  exact ⟨T, Mod.refl _ _, (hstr _ _ _ _ h.head hn).mod m (fun _ _ f => f), (hstr _ _ _ _ h.vars hv).mod m (fun _ _ f => f), hT.below hb, hne _ _ _ _ h.head hn, hne _ _ _ _ h.vars hv⟩
end Go.Proofs.YtgilflkgibfjgaaDoor
namespace Go.Proofs.YtgilflkgibfjgaaDoor
open Go.RowKit
set_option linter.unusedVariables false

theorem refMatchO_any (w : World) (rel : ByteArray) (tv rv : Value) (ts : List Trm) (vs : List Vl) (h : RowAt w tv 4 (ts.map Trm.cells)) (hr : RowAt w rv 3 (vs.map Vl.cells)) (hn : ts.length ≤ 2932031007317) (hv : vs.length ≤ 4398046511104) :
    Calls Tryd.prog 23 #[.agg #[.string rel, tv], rv] w fun e w' => ∃ va n c, e = .returned (.tuple #[.slice va n c, .bool (matchR ts vs).isSome]) ∧ RowAt w' (.slice va n c) 3 (((matchR ts vs).getD []).map Vl.cells) ∧ Below w.heap.size w w' := by
  refine (refMatch_any w rel tv rv ts vs h hr hn hv).mono ?_
  intro e w' hp
  cases hm : matchR ts vs with
  | none =>
    rw [hm] at hp
    obtain ⟨rfl, hb⟩ := hp
    exact ⟨_, _, _, rfl, RowAt.nil _ _, hb⟩
  | some l =>
    rw [hm] at hp
    obtain ⟨v, rfl, ho, hb⟩ := hp
    have hl := matchR_len hm
    have hra : RowAt w' v 3 (l.map Vl.cells) := ownVl' ho (by omega)
    obtain ⟨va, c, rfl⟩ := own_sl ho
    exact ⟨_, _, _, rfl, hra, hb⟩
theorem boxes1 {W W' : World} {g1 : Nat} {t : TypeId} {a b c : Value} (h1 : Blk W g1 t #[a, b, c]) (hb : Below W.heap.size W W') :
    W'.cell? ⟨g1, 0, none⟩ = some a ∧ W'.cell? ⟨g1, 1, none⟩ = some b ∧ W'.cell? ⟨g1, 2, none⟩ = some c ∧ g1 < W'.heap.size := by
  have k1 := h1.below hb h1.lt
  exact ⟨k1.cell 0, k1.cell 1, k1.cell 2, k1.lt⟩
end Go.Proofs.YtgilflkgibfjgaaDoor
