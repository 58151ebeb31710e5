/- A query's plain form, plainly. -/
import Derived.Test.YtgilflkgibfjgaaDoorGm
import Derived.Test.YtgilflkgibfjgaaDoorLb
import Derived.Test.YtgilflkgibfjgaaDoorGb
namespace Go.Proofs.YtgilflkgibfjgaaDoor
open Go.RowKit
set_option linter.unusedVariables false

/-- The name that stands for s, where L are the names in their order. -/
def vNo (L : List (List UInt8)) (s : List UInt8) : List UInt8 := 118 :: Lib.itoa (L.idxOf s : Int)
def varsL (ts : List Trm) : List (List UInt8) := (ts.map (·.x)).filter fun x => decide (x ≠ [])
def oldQ (q : Qry) : List (List UInt8) := q.head ++ q.atoms.flatMap fun a => varsL a.ts
def seenQ (q : Qry) : List (List UInt8) := (oldQ q).foldl addN []
def pTm (L : List (List UInt8)) (t : Trm) : Trm := if t.x = [] then t else ⟨vNo L t.x, t.k, t.n, t.t⟩
def pAt (L : List (List UInt8)) (a : Atm) : Atm := ⟨a.rel, a.ts.map (pTm L)⟩
def plainL (L : List (List UInt8)) (q : Qry) : Qry := ⟨q.name, q.head.map (vNo L), q.atoms.map (pAt L)⟩
def plainQ (q : Qry) : Qry := plainL (seenQ q) q

theorem itoa_inj {a b : Nat} (ha : a ≤ 9223372036854775807) (hb : b ≤ 9223372036854775807) (h : Lib.itoa (a : Int) = Lib.itoa (b : Int)) : a = b := by
  have h1 := scan_itoa (a : Int) (by omega) (by omega)
  have h2 := scan_itoa (b : Int) (by omega) (by omega)
  rw [h] at h1
  rw [h1] at h2
  simp only [Res.mk.injEq] at h2
  omega
section
variable {o l L V : List (List UInt8)} {s t : List UInt8}
theorem fold_mem : ∀ (l o : List (List UInt8)), s ∈ l.foldl addN o ↔ s ∈ o ∨ s ∈ l
  | [], o => by simp
  | x :: l, o => by
    rw [List.foldl_cons, fold_mem l]
    unfold addN
    split
    · rename_i hx
      constructor
      · rintro (h | h)
        · exact .inl h
        · exact .inr (List.mem_cons_of_mem _ h)
      · rintro (h | h)
        · exact .inl h
        · rcases List.mem_cons.1 h with rfl | h
          · exact .inl hx
          · exact .inr h
    · rw [List.mem_append, List.mem_singleton, List.mem_cons]
      constructor
      · rintro ((h | h) | h)
        · exact .inl h
        · exact .inr (.inl h)
        · exact .inr (.inr h)
      · rintro (h | h | h)
        · exact .inl (.inl h)
        · exact .inl (.inr h)
        · exact .inr h
theorem fold_pre : ∀ (l o : List (List UInt8)), ∃ r, l.foldl addN o = o ++ r
  | [], o => ⟨[], by simp⟩
  | x :: l, o => by
    obtain ⟨r, h⟩ := fold_pre l (addN o x)
    rw [List.foldl_cons, h]
    unfold addN
    split
    · exact ⟨r, rfl⟩
    · exact ⟨x :: r, by simp⟩
theorem fold_nodup : ∀ (l o : List (List UInt8)), o.Nodup → (l.foldl addN o).Nodup
  | [], o, h => h
  | x :: l, o, h => by
    rw [List.foldl_cons]
    refine fold_nodup l _ ?_
    unfold addN
    split
    · exact h
    · rename_i hx
      exact List.nodup_append.2 ⟨h, by simp, fun a ha b hb e => by simp at hb; subst hb; subst e; exact hx ha⟩
theorem idx_pre {r : List (List UInt8)} (h : s ∈ o) (e : L = o ++ r) : L.idxOf s = o.idxOf s := by
  rw [e, List.idxOf_append, if_pos h]
theorem idx_new {r : List (List UInt8)} (h : s ∉ o) (e : L = (o ++ [s]) ++ r) : L.idxOf s = o.length := by
  rw [e, List.append_assoc, List.idxOf_append, if_neg h]
  simp
theorem seen_mem {q : Qry} : s ∈ seenQ q ↔ s ∈ oldQ q := by
  unfold seenQ
  rw [fold_mem]
  simp
theorem vNo_inj (hl : L.length ≤ 9223372036854775807) (hs : s ∈ L) (ht : t ∈ L) (h : vNo L s = vNo L t) : s = t := by
  unfold vNo at h
  injection h with _ h
  have h1 := List.idxOf_lt_length_of_mem hs
  have h2 := List.idxOf_lt_length_of_mem ht
  have h3 := itoa_inj (by omega) (by omega) h
  have h4 := List.getElem_idxOf h1
  have h5 := List.getElem_idxOf h2
  rw [← h4, ← h5]
  simp only [h3]
theorem idx_map {f : List UInt8 → List UInt8} : ∀ (V : List (List UInt8)), s ∈ V → (∀ a ∈ V, f a = f s → a = s) → (V.map f).idxOf (f s) = V.idxOf s
  | [], h, _ => by simp at h
  | a :: V, h, hi => by
    rw [List.map_cons, List.idxOf_cons, List.idxOf_cons]
    by_cases e : a = s
    · subst e
      simp
    · have e2 : f a ≠ f s := fun q => e (hi a List.mem_cons_self q)
      have hm : s ∈ V := by
        rcases List.mem_cons.1 h with q | q
        · exact absurd q.symm e
        · exact q
      have e3 : (a == s) = false := by simpa using e
      have e4 : (f a == f s) = false := by simpa using e2
      rw [e3, e4]
      simp only [cond_false]
      rw [idx_map V hm fun b hb => hi b (List.mem_cons_of_mem _ hb)]
theorem mem_map_inj {f : List UInt8 → List UInt8} (hi : ∀ a ∈ V, f a = f s → a = s) : f s ∈ V.map f ↔ s ∈ V := by
  constructor
  · intro h
    obtain ⟨a, ha, e⟩ := List.mem_map.1 h
    rw [← hi a ha e]
    exact ha
  · exact fun h => List.mem_map.2 ⟨s, h, rfl⟩
theorem fold_map {f : List UInt8 → List UInt8} : ∀ (l o : List (List UInt8)), (∀ a, a ∈ o ∨ a ∈ l → ∀ b, b ∈ o ∨ b ∈ l → f a = f b → a = b) → (l.map f).foldl addN (o.map f) = (l.foldl addN o).map f
  | [], o, _ => rfl
  | x :: l, o, hi => by
    rw [List.map_cons, List.foldl_cons, List.foldl_cons]
    have e : addN (o.map f) (f x) = (addN o x).map f := by
      unfold addN
      by_cases hx : x ∈ o
      · rw [if_pos hx, if_pos (List.mem_map.2 ⟨x, hx, rfl⟩)]
      · rw [if_neg hx, if_neg, List.map_append]
        · rfl
        · rw [mem_map_inj fun a ha => hi a (.inl ha) x (.inr List.mem_cons_self)]
          exact hx
    rw [e]
    refine fold_map l _ fun a ha b hb => hi a ?_ b ?_
    · rcases ha with ha | ha
      · unfold addN at ha
        split at ha
        · exact .inl ha
        · rcases List.mem_append.1 ha with h | h
          · exact .inl h
          · simp at h; subst h; exact .inr List.mem_cons_self
      · exact .inr (List.mem_cons_of_mem _ ha)
    · rcases hb with ha | ha
      · unfold addN at ha
        split at ha
        · exact .inl ha
        · rcases List.mem_append.1 ha with h | h
          · exact .inl h
          · simp at h; subst h; exact .inr List.mem_cons_self
      · exact .inr (List.mem_cons_of_mem _ ha)
end
theorem vNo_ne (L : List (List UInt8)) (s : List UInt8) : vNo L s ≠ [] := by simp [vNo]
theorem varsL_plain (L : List (List UInt8)) : ∀ ts : List Trm, varsL (ts.map (pTm L)) = (varsL ts).map (vNo L)
  | [] => rfl
  | t :: ts => by
    have ih := varsL_plain L ts
    unfold varsL at ih ⊢
    rw [List.map_cons, List.map_cons, List.map_cons, List.filter_cons, List.filter_cons, ih]
    by_cases hx : t.x = []
    · have e : (pTm L t).x = [] := by unfold pTm; rw [if_pos hx]; exact hx
      rw [e, hx]
      simp
    · have e : (pTm L t).x = vNo L t.x := by unfold pTm; rw [if_neg hx]
      rw [e]
      simp [hx, vNo_ne]
theorem old_plain (L : List (List UInt8)) (q : Qry) : oldQ (plainL L q) = (oldQ q).map (vNo L) := by
  unfold oldQ plainL
  simp only [List.map_append]
  congr 1
  induction q.atoms with
  | nil => rfl
  | cons a l ih =>
    simp only [List.map_cons, List.flatMap_cons, List.map_append, ih, pAt, varsL_plain]
theorem seen_plain {q : Qry} (hl : (seenQ q).length ≤ 9223372036854775807) : seenQ (plainQ q) = (seenQ q).map (vNo (seenQ q)) := by
  unfold seenQ plainQ
  rw [old_plain]
  have h := fold_map (f := vNo (seenQ q)) (oldQ q) [] fun a ha b hb e => vNo_inj hl (seen_mem.2 (by simpa using ha)) (seen_mem.2 (by simpa using hb)) e
  exact h
theorem vNo_twice {q : Qry} {s : List UInt8} (hl : (seenQ q).length ≤ 9223372036854775807) (hs : s ∈ seenQ q) : vNo (seenQ (plainQ q)) (vNo (seenQ q) s) = vNo (seenQ q) s := by
  rw [seen_plain hl]
  have e := idx_map (f := vNo (seenQ q)) _ hs fun a ha e => vNo_inj hl ha hs e
  show 118 :: Lib.itoa ((((seenQ q).map (vNo (seenQ q))).idxOf (vNo (seenQ q) s) : Nat) : Int) = _
  rw [e]
  rfl
theorem head_seen {q : Qry} {s : List UInt8} (h : s ∈ q.head) : s ∈ seenQ q := seen_mem.2 (List.mem_append.2 (.inl h))
theorem var_seen {q : Qry} {a : Atm} {t : Trm} (ha : a ∈ q.atoms) (ht : t ∈ a.ts) (hx : t.x ≠ []) : t.x ∈ seenQ q :=
  seen_mem.2 (List.mem_append.2 (.inr (List.mem_flatMap.2 ⟨a, ha, List.mem_filter.2 ⟨List.mem_map.2 ⟨t, ht, rfl⟩, by simpa using hx⟩⟩)))
/-- The plain form's plain form is itself. -/
theorem plain_twice {q : Qry} (hl : (seenQ q).length ≤ 9223372036854775807) : plainQ (plainQ q) = plainQ q := by
  show plainL (seenQ (plainQ q)) (plainL (seenQ q) q) = plainL (seenQ q) q
  obtain ⟨nm, hd, al⟩ := q
  simp only [plainL, Qry.mk.injEq, true_and, List.map_map]
  refine ⟨List.map_congr_left fun s hs => vNo_twice hl (head_seen hs), List.map_congr_left fun a ha => ?_⟩
  simp only [Function.comp, pAt, List.map_map, Atm.mk.injEq, true_and]
  refine List.map_congr_left fun t ht => ?_
  simp only [Function.comp]
  by_cases hx : t.x = []
  · have e : pTm (seenQ ⟨nm, hd, al⟩) t = t := by unfold pTm; rw [if_pos hx]
    rw [e]
    unfold pTm
    rw [if_pos hx]
  · have e : pTm (seenQ ⟨nm, hd, al⟩) t = ⟨vNo (seenQ ⟨nm, hd, al⟩) t.x, t.k, t.n, t.t⟩ := by unfold pTm; rw [if_neg hx]
    rw [e]
    unfold pTm
    simp only
    rw [if_neg (vNo_ne _ _), vNo_twice hl (var_seen ha ht hx)]

theorem addV_map {L : List (List UInt8)} (hl : L.length ≤ 9223372036854775807) {o : List (List UInt8)} {t : Trm} (ho : ∀ s ∈ o, s ∈ L) (ht : t.x ≠ [] → t.x ∈ L) : addV (o.map (vNo L)) (pTm L t) = (addV o t).map (vNo L) := by
  unfold addV
  by_cases hx : t.x = []
  · have e : pTm L t = t := by unfold pTm; rw [if_pos hx]
    rw [e, if_pos hx, if_pos hx]
  · have e : (pTm L t).x = vNo L t.x := by unfold pTm; rw [if_neg hx]
    rw [e, if_neg (vNo_ne _ _), if_neg hx]
    unfold addN
    by_cases hm : t.x ∈ o
    · rw [if_pos hm, if_pos (List.mem_map.2 ⟨_, hm, rfl⟩)]
    · rw [if_neg hm, if_neg, List.map_append]
      · rfl
      · rw [mem_map_inj fun a ha e => vNo_inj hl (ho a ha) (ht hx) e]
        exact hm
theorem atomVars_map {L : List (List UInt8)} (hl : L.length ≤ 9223372036854775807) : ∀ (ts : List Trm) (o : List (List UInt8)), (∀ s ∈ o, s ∈ L) → (∀ t ∈ ts, t.x ≠ [] → t.x ∈ L) → (ts.map (pTm L)).foldl addV (o.map (vNo L)) = (ts.foldl addV o).map (vNo L) ∧ ∀ s ∈ ts.foldl addV o, s ∈ L
  | [], o, ho, _ => ⟨rfl, ho⟩
  | t :: ts, o, ho, ht => by
    rw [List.map_cons, List.foldl_cons, List.foldl_cons, addV_map hl ho (ht t List.mem_cons_self)]
    refine atomVars_map hl ts _ (fun s hs => ?_) fun u hu => ht u (List.mem_cons_of_mem _ hu)
    unfold addV at hs
    split at hs
    · exact ho s hs
    · rename_i hx
      unfold addN at hs
      split at hs
      · exact ho s hs
      · rcases List.mem_append.1 hs with h | h
        · exact ho s h
        · simp at h; subst h; exact ht t List.mem_cons_self hx
theorem idxI_map {L V : List (List UInt8)} {s : List UInt8} (hl : L.length ≤ 9223372036854775807) (hV : ∀ a ∈ V, a ∈ L) (hs : s ∈ L) : idxI (V.map (vNo L)) (vNo L s) = idxI V s := by
  unfold idxI
  by_cases h : s ∈ V
  · rw [if_pos h, if_pos (List.mem_map.2 ⟨s, h, rfl⟩), idx_map V h fun a ha e => vNo_inj hl (hV a ha) hs e]
  · rw [if_neg h, if_neg]
    rw [mem_map_inj fun a ha e => vNo_inj hl (hV a ha) hs e]
    exact h
theorem matchG_map {L V : List (List UInt8)} (hl : L.length ≤ 9223372036854775807) (hV : ∀ a ∈ V, a ∈ L) : ∀ (ts : List Trm) (vs : List Vl) (out : List Vl), (∀ t ∈ ts, t.x ≠ [] → t.x ∈ L) → matchG (V.map (vNo L)) ((ts.map (pTm L)).zip vs) out = matchG V (ts.zip vs) out
  | [], vs, out, _ => by simp [matchG]
  | t :: ts, [], out, _ => by simp [matchG]
  | t :: ts, v :: vs, out, ht => by
    rw [List.map_cons, List.zip_cons_cons, List.zip_cons_cons]
    unfold matchG
    have ih := fun o => matchG_map hl hV ts vs o fun u hu => ht u (List.mem_cons_of_mem _ hu)
    by_cases hx : t.x = []
    · have e : pTm L t = t := by unfold pTm; rw [if_pos hx]
      rw [e, if_pos hx, if_pos hx, ih]
    · have e : (pTm L t).x = vNo L t.x := by unfold pTm; rw [if_neg hx]
      rw [e, if_neg (vNo_ne _ _), if_neg hx, idxI_map hl hV (ht t List.mem_cons_self hx), ih, ih]
/-- An atom and its plain form match the same rows. -/
theorem matchR_plain {L : List (List UInt8)} {ts : List Trm} (hl : L.length ≤ 9223372036854775807) (ht : ∀ t ∈ ts, t.x ≠ [] → t.x ∈ L) (vs : List Vl) : matchR (ts.map (pTm L)) vs = matchR ts vs := by
  obtain ⟨h1, h2⟩ := atomVars_map hl ts [] (by simp) ht
  unfold matchR
  rw [List.length_map]
  split
  · have e : atomVars (ts.map (pTm L)) = (atomVars ts).map (vNo L) := h1
    rw [e]
    exact matchG_map hl h2 ts vs [] ht
  · rfl
end Go.Proofs.YtgilflkgibfjgaaDoor
