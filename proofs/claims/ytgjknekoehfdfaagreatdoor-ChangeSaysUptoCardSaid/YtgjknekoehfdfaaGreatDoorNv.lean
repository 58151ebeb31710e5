/- change.Net's map in memory: of each name the list of its last changes, each in a block of its own. Elements struck out of a row of the call's own: no program in sight. A row of the call's own before and behind the library's sort: no program in sight. slices.IndexFunc, DeleteFunc at Change, walked: a list of the call's own, whatever function tells what is struck. change.Net's closures, walked; slices.SortFunc at Change, by the library's contract. -/
import Derived.Test.YtgjknekoehfdfaaGreatDoorNb
import Derived.Test.YtgjknekoehfdfaaGreatDoorCh0Z
import Derived.Test.YtgjknekoehfdfaaGreatDoorGa
import Derived.Test.YtgjknekoehfdfaaGreatDoorCy
import Derived.Test.YtgjknekoehfdfaaGreatDoorGr
import Derived.Test.YtgjknekoehfdfaaGreatDoorGb
import Derived.Test.YtgjknekoehfdfaaGreatDoorLa
import Derived.Test.YtgjknekoehfdfaaGreatDoorShelfN
import Derived.Maps.OwnSet
import Derived.Maps.Own
import Derived.Lib.SliceRun
import Derived.Shelf.GgSortFunc.InsertionK
import Derived.Shelf.Abstract
import Derived.Shelf.SlSortCmp.WholeK
namespace Go.Proofs.YtgjknekoehfdfaaGreatDoor
open Go.RowKit Go.Maps
set_option linter.unusedVariables false

/-- How a slice in a map reads: as its own place. -/
def slD (g n c : Nat) : DataW Unit := .agg [.lit (.int .i64 g), .lit (.int .i64 n), .lit (.int .i64 c)]
def sliceR (v : Value) : Option (DataW Unit × List MemPlace) := match v with
  | .slice (some ⟨g, 0, none⟩) n c => some (slD g n c, [])
  | .slice none 0 0 => some (.agg [], [])
  | _ => none
theorem sliceR_some {v : Value} {g n c : Nat} {ps : List MemPlace} (h : sliceR v = some (slD g n c, ps)) : v = .slice (some ⟨g, 0, none⟩) n c := by
  unfold sliceR at h
  split at h
  · rename_i g' n' c'
    simp only [slD, Option.some.injEq, Prod.mk.injEq, DataW.agg.injEq, List.cons.injEq, DataW.lit.injEq, Lit.int.injEq, true_and, and_true] at h
    obtain ⟨⟨h1, h2, h3⟩, _⟩ := h
    obtain rfl : g' = g := by omega
    obtain rfl : n' = n := by omega
    obtain rfl : c' = c := by omega
    rfl
  · simp [slD] at h
  · cases h
theorem sliceR_nil {v : Value} {ps : List MemPlace} (h : sliceR v = some (.agg [], ps)) : v = .slice none 0 0 := by
  unfold sliceR at h
  split at h
  · simp [slD] at h
  · rfl
  · cases h

/-- Rows of values stay. -/
def KV (w w' : World) : Prop := ∀ (j : Nat) (cs : Array Value) (fr : Nat × Nat), w.heap[j]? = some (Obj.cells cs 74 fr) → w'.heap[j]? = some (Obj.cells cs 74 fr)
theorem KV.refl (w : World) : KV w w := fun _ _ _ h => h
theorem KV.trans {a b c : World} (h : KV a b) (k : KV b c) : KV a c := fun j cs fr hj => k j cs fr (h j cs fr hj)
theorem KV.below {w w' : World} (h : Below w.heap.size w w') : KV w w' := fun j cs fr hj => (h.block j (Array.getElem?_eq_some_iff.1 hj).1).trans hj
theorem KV.mt {B : Nat} {w w' : World} (h : MT B [30] w w') : KV w w' := fun j cs fr hj => (Mod.block h j (Array.getElem?_eq_some_iff.1 hj).1 (fun hh => by
  obtain ⟨_, cs', t, fr', h1, h2⟩ := hh
  rw [hj] at h1
  simp only [List.mem_singleton] at h2
  subst h2
  injection h1 with h1
  injection h1 with _ e _
  exact absurd e (by decide))).trans hj
theorem KV.map {w w' : World} {b : Nat} {es : Array MapEntry} {cl : Nat} (hg : w.grownBy w' (some b)) (hb : w.heap[b]? = some (.map es cl)) : KV w w' := fun j cs fr hj => (hg.block j (Array.getElem?_eq_some_iff.1 hj).1 (fun e => by
  simp only [Option.some.injEq] at e
  subst e
  rw [hb] at hj
  cases hj)).trans hj
theorem ownsRow_kv {w w' : World} {B sz n : Nat} {v : Value} {xs : List Value} (h : w.ownsRow B 74 sz v n xs) (hk : KV w w') : w'.ownsRow B 74 sz v n xs := by
  refine ⟨h.1, ?_⟩
  rcases h.2 with h0 | ⟨g, cap, cur, h1, h2, h3, h4⟩
  · exact .inl h0
  · exact .inr ⟨g, cap, cur, h1, h2, hk _ _ _ h3, h4⟩
theorem ChgO.kv {B : Nat} {w w' : World} {row : List Value} {c : Chg} (h : ChgO B w row c) (hk : KV w w') : ChgO B w' row c := by
  obtain ⟨rv, rfl, h2⟩ := h
  exact ⟨rv, rfl, ownsRow_kv h2 hk⟩
theorem ChgsOwn.kv {B : Nat} {w w' : World} {v : Value} {l : List Chg} {F : Nat → Prop} (h : ChgsOwn B w v l) (hk : KV w w') (hm : Mod F w w') (hF : ∀ k, v.ownBlock = some k → ¬ F k) : ChgsOwn B w' v l := by
  obtain ⟨rows, h1, h2⟩ := h
  exact ⟨rows, hm.ownsRow h1 hF, h2.mono fun b a hh => hh.kv hk⟩
/-- The block that a list of changes owns is no map. -/
theorem ChgsOwn.notMap {B : Nat} {w : World} {v : Value} {l : List Chg} {b g : Nat} {es : Array MapEntry} {cl : Nat} (h : ChgsOwn B w v l) (hb : w.heap[b]? = some (.map es cl)) (hg : v.ownBlock = some g) : g ≠ b := by
  obtain ⟨rows, h1, h2⟩ := h
  rcases h1.2 with ⟨rfl, _⟩ | ⟨g', cap, cur, rfl, _, h3, _⟩
  · cases hg
  · simp only [Value.ownBlock, Option.some.injEq] at hg
    subst hg
    rintro rfl
    rw [hb] at h3
    cases h3
theorem ChgsOwn.block {B : Nat} {w : World} {v : Value} {l : List Chg} {g : Nat} (h : ChgsOwn B w v l) (hg : v.ownBlock = some g) : B ≤ g ∧ g < w.heap.size ∧ ∃ cs, Blk w g 30 cs := by
  obtain ⟨rows, h1, h2⟩ := h
  rcases h1.2 with ⟨rfl, _⟩ | ⟨g', cap, cur, rfl, hb, h3, _⟩
  · cases hg
  · simp only [Value.ownBlock, Option.some.injEq] at hg
    subst hg
    exact ⟨hb, (Array.getElem?_eq_some_iff.1 h3).1, cur, h3⟩

/-- Is there a change of this name? -/
def hasN (p : List Chg) (r : List UInt8) : Bool := p.any fun c => decide (c.rel = r)
theorem hasN_iff {p : List Chg} {r : List UInt8} : hasN p r = true ↔ ∃ c ∈ p, c.rel = r := by
  unfold hasN
  rw [List.any_eq_true]
  constructor
  · rintro ⟨c, h1, h2⟩
    exact ⟨c, h1, of_decide_eq_true h2⟩
  · rintro ⟨c, h1, h2⟩
    exact ⟨c, h1, decide_eq_true h2⟩
theorem hasN_snoc (p : List Chg) (c : Chg) (r : List UInt8) : hasN (p ++ [c]) r = (hasN p r || decide (c.rel = r)) := by
  unfold hasN
  rw [List.any_append]
  simp
theorem nmL_no {p : List Chg} {r : List UInt8} (h : hasN p r = false) : nmL r p = [] := nmL_none fun c hc e => by
  rw [hasN_iff.2 ⟨c, hc, e⟩] at h
  cases h
structure NetM (B : Nat) (w : World) (b n : Nat) (p : List Chg) (D : DataW Unit) (blk cp : List UInt8 → Nat) : Prop where
  map : w.ownsMap Tryz.prog 9 sliceR b n D
  has : ∀ r, Maps.has D (.string r) = hasN p r
  at_ : ∀ r, hasN p r = true → ∀ z, D.atKey (.string r) z = slD (blk r) (nmL r p).length (cp r)
  own : ∀ r, hasN p r = true → ChgsOwn B w (.slice (some ⟨blk r, 0, none⟩) (nmL r p).length (cp r)) (nmL r p)
  apart : ∀ r s, hasN p r = true → hasN p s = true → blk r = blk s → r = s
theorem NetM.start (B : Nat) (w : World) : NetM B (w.alloc (.map #[] 0)) w.heap.size 0 [] (.map []) (fun _ => 0) (fun _ => 0) where
  map := World.ownsMap_made _ _ _ _
  has := fun r => rfl
  at_ := fun r h => by cases h
  own := fun r h => by cases h
  apart := fun r s h => by cases h
/-- What m[r] is. -/
theorem NetM.look {B : Nat} {w : World} {b n : Nat} {p : List Chg} {D : DataW Unit} {blk cp : List UInt8 → Nat} (h : NetM B w b n p D blk cp) {r : List UInt8} {v : Value} {ps : List MemPlace} (hv : sliceR v = some (D.atKey (.string r) (.agg []), ps)) :
    ChgsOwn B w v (nmL r p) ∧ ∀ g, v.ownBlock = some g → hasN p r = true ∧ g = blk r := by
  cases hr : hasN p r with
  | true =>
    rw [h.at_ r hr] at hv
    obtain rfl := sliceR_some hv
    exact ⟨h.own r hr, fun g hg => ⟨rfl, by simpa [Value.ownBlock] using hg.symm⟩⟩
  | false =>
    rw [Maps.atKey_of_not_has (by rw [h.has, hr])] at hv
    obtain rfl := sliceR_nil hv
    rw [nmL_no hr]
    exact ⟨⟨[], World.ownsRow_nil _ _ _ _, trivial⟩, fun g hg => by cases hg⟩
theorem strLitN (r : List UInt8) : WideAt.IsKeyLit (.string r) := by
  simp [WideAt.IsKeyLit]
theorem str_ne {r s : List UInt8} (h : r ≠ s) : (Lit.string r) ≠ .string s := fun e => h (by injection e)
/-- One change more. -/
theorem NetM.step {B : Nat} {w w' : World} {b n n' : Nat} {p : List Chg} {D : DataW Unit} {blk cp : List UInt8 → Nat} (h : NetM B w b n p D blk cp) {c : Chg} {v : Value} {g len cap : Nat} (hv : ∀ g, v.ownBlock = some g → hasN p c.rel = true ∧ g = blk c.rel)
    (hi : Mod (fun j => v.ownBlock = some j ∨ j = b) w w') (hk : KV w w') (hm : w'.ownsMap Tryz.prog 9 sliceR b n' ((D.del (.string c.rel)).put (.string c.rel) (slD g len cap))) (hg : v.ownBlock = some g ∨ w.heap.size ≤ g)
    (ho : ChgsOwn B w' (.slice (some ⟨g, 0, none⟩) len cap) (nmL c.rel (p ++ [c]))) (hlen : len = (nmL c.rel (p ++ [c])).length) :
    NetM B w' b n' (p ++ [c]) ((D.del (.string c.rel)).put (.string c.rel) (slD g len cap)) (fun r => if r = c.rel then g else blk r) (fun r => if r = c.rel then cap else cp r) := by
  have hdm : IsMap D := h.map.isMap
  obtain ⟨es, cl, hbm, _⟩ := h.map
  have hdel : IsMap (D.del (.string c.rel)) := hdm.del _
  have hold : ∀ r, r ≠ c.rel → hasN (p ++ [c]) r = hasN p r := fun r hr => by
    rw [hasN_snoc, decide_eq_false (fun e => hr e.symm), Bool.or_false]
  have hnew : hasN (p ++ [c]) c.rel = true := by rw [hasN_snoc, decide_eq_true rfl, Bool.or_true]
  have hnm : ∀ r, r ≠ c.rel → nmL r (p ++ [c]) = nmL r p := fun r hr => nmL_other (fun e => hr e.symm)
  have hfar : ∀ r, r ≠ c.rel → hasN p r = true → blk r ≠ g := fun r hr hp e => by
    rcases hg with h1 | h1
    · obtain ⟨h2, h3⟩ := hv g h1
      exact hr (h.apart r c.rel hp h2 (by rw [e, h3]))
    · have := ((h.own r hp).block (g := blk r) rfl).2.1
      omega
  refine ⟨hm, fun r => ?_, fun r hr z => ?_, fun r hr => ?_, fun r s hr hs e => ?_⟩
  · by_cases hrc : r = c.rel
    · subst hrc
      rw [Maps.has_put_same hdel (strLitN _), hnew]
    · rw [Maps.has_put_other (str_ne hrc), Maps.has_del_other (str_ne hrc), h.has, hold r hrc]
  · by_cases hrc : r = c.rel
    · subst hrc
      rw [Maps.atKey_put_same hdel (strLitN _), if_pos rfl, if_pos rfl, hlen]
    · rw [hold r hrc] at hr
      rw [Maps.atKey_put_other (str_ne hrc), Maps.atKey_del_other (str_ne hrc), h.at_ r hr, if_neg hrc, if_neg hrc, hnm r hrc]
  · by_cases hrc : r = c.rel
    · subst hrc
      simp only [if_true]
      rw [← hlen]
      exact ho
    · rw [hold r hrc] at hr
      simp only [hrc, if_false]
      rw [hnm r hrc]
      refine (h.own r hr).kv hk hi fun k hk' => ?_
      simp only [Value.ownBlock, Option.some.injEq] at hk'
      subst hk'
      rintro (h1 | h1)
      · obtain ⟨h2, h3⟩ := hv _ h1
        exact hrc (h.apart r c.rel hr h2 h3)
      · exact (h.own r hr).notMap hbm rfl h1
  · by_cases hrc : r = c.rel
    · by_cases hsc : s = c.rel
      · rw [hrc, hsc]
      · rw [hold s hsc] at hs
        simp only [hrc, hsc, if_true, if_false] at e
        exact absurd e.symm (hfar s hsc hs)
    · rw [hold r hrc] at hr
      by_cases hsc : s = c.rel
      · simp only [hrc, hsc, if_true, if_false] at e
        exact absurd e (hfar r hrc hr)
      · rw [hold s hsc] at hs
        simp only [hrc, hsc, if_false] at e
        exact h.apart r s hr hs e
theorem NetM.keep {B : Nat} {w w' : World} {b n : Nat} {p : List Chg} {D : DataW Unit} {blk cp : List UInt8 → Nat} (h : NetM B w b n p D blk cp) (hb : Below w.heap.size w w') : NetM B w' b n p D blk cp where
  map := by
    have hlt := h.map.lt
    obtain ⟨es, cl, h1, h2⟩ := h.map
    exact ⟨es, cl, (hb.block b hlt).trans h1, h2⟩
  has := h.has
  at_ := h.at_
  own := fun r hr => (h.own r hr).mt (MT.ofBelow (B := 0) (Ts := []) hb) (by simp) (by simp)
  apart := h.apart
end Go.Proofs.YtgjknekoehfdfaaGreatDoor
namespace Go.Proofs.YtgjknekoehfdfaaGreatDoor
open Go.RowKit
set_option linter.unusedVariables false

/-- The elements whose places, told from i on, are not struck. -/
def keepN {α : Type} (p : Nat → Bool) : Nat → List α → List α
  | _, [] => []
  | i, x :: l => if p i then keepN p (i + 1) l else x :: keepN p (i + 1) l
section
variable {α β : Type} {p : Nat → Bool}
theorem keepN_len : ∀ (i : Nat) (l : List α), (keepN p i l).length ≤ l.length
  | _, [] => Nat.le_refl _
  | i, x :: l => by
    have h := keepN_len (i + 1) l
    unfold keepN
    by_cases hp : p i = true
    · rw [if_pos hp, List.length_cons]
      omega
    · rw [if_neg hp, List.length_cons, List.length_cons]
      omega
theorem keepN_snoc : ∀ (i : Nat) (l : List α) (x : α), keepN p i (l ++ [x]) = keepN p i l ++ if p (i + l.length) then [] else [x]
  | i, [], x => by
    show (if p i = true then [] else [x]) = [] ++ _
    simp
  | i, y :: l, x => by
    have h := keepN_snoc (i + 1) l x
    rw [show i + 1 + l.length = i + (y :: l).length by rw [List.length_cons]; omega] at h
    rw [List.cons_append]
    show (if p i = true then keepN p (i + 1) (l ++ [x]) else y :: keepN p (i + 1) (l ++ [x])) = (if p i = true then keepN p (i + 1) l else y :: keepN p (i + 1) l) ++ _
    rw [h]
    by_cases hp : p i = true
    · rw [if_pos hp, if_pos hp]
    · rw [if_neg hp, if_neg hp, List.cons_append]
theorem keepN_none : ∀ (i : Nat) (l : List α), (∀ j, i ≤ j → j < i + l.length → p j = false) → keepN p i l = l
  | _, [], _ => rfl
  | i, x :: l, h => by
    unfold keepN
    rw [if_neg (by rw [h i (Nat.le_refl _) (by rw [List.length_cons]; omega)]; decide), keepN_none (i + 1) l fun j h1 h2 => h j (by omega) (by rw [List.length_cons]; omega)]
theorem all2_keepN {R : α → β → Prop} {f : β → Bool} : ∀ (i : Nat) {l : List α} {m : List β}, All2 R l m → (∀ k b, m[k]? = some b → p (i + k) = f b) → All2 R (keepN p i l) (m.filter fun b => !f b)
  | _, [], [], _, _ => trivial
  | i, x :: l, y :: m, h, hp => by
    have h0 := hp 0 y rfl
    have ih := all2_keepN (f := f) (i + 1) h.2 fun k b hb => by
      have := hp (k + 1) b (by simpa using hb)
      rw [← this]
      congr 1
      omega
    unfold keepN
    rw [Nat.add_zero] at h0
    cases hf : f y with
    | true =>
      rw [hf] at h0
      rw [if_pos h0, List.filter_cons_of_neg (by simp [hf])]
      exact ih
    | false =>
      rw [hf] at h0
      rw [if_neg (by rw [h0]; decide), List.filter_cons_of_pos (by simp [hf])]
      exact ⟨h.1, ih⟩
  | _, [], _ :: _, h, _ => h.elim
  | _, _ :: _, [], h, _ => h.elim
end

theorem zero_cells {z : List Value} (h : ∀ v ∈ z, v.oneCell' = true) (hl : 0 < z.length) (n : Nat) : ∀ v ∈ (Builtin.zeroCells z.toArray n).toList, v.oneCell' = true := by
  intro v hv
  simp only [Builtin.zeroCells, Array.toList_map, List.mem_map] at hv
  obtain ⟨i, _, rfl⟩ := hv
  have hlt : i % z.toArray.size < z.toArray.size := Nat.mod_lt _ (by simpa using hl)
  rw [getElem!_pos z.toArray _ hlt]
  exact h _ (by simp)
/-- clear(s[i:]), s a row of the call's own: its first i elements stay. -/
theorem clear_tail {P : Program} {w : World} {t e : TypeId} {g n cap base i c : Nat} {z : List Value} {rows : List (List Value)} (ht : P.underlying t = some (.slice e)) (hv : ∀ w, (zeroValue e).run P w = .ok (.agg z.toArray) w) (hz : ∀ v ∈ z, v.oneCell' = true) (hzl : z.length = 3)
    (ho : w.ownsRow base e 3 (.slice (some ⟨g, 0, none⟩) n cap) n rows.flatten) (h3 : ∀ x ∈ rows, x.length = 3) (hl : rows.length = n) (hi : i < n) :
    ∃ w', (∀ ty, (Builtin.clear_ #[t] ty #[.slice (some ⟨g, i * 3, none⟩) (n - i) c]).run P w = .ok (.tuple #[]) w') ∧ w'.ownsRow base e 3 (.slice (some ⟨g, 0, none⟩) i cap) i (rows.take i).flatten ∧ Mod (fun j => j = g) w w' := by
  rcases ho.2 with ⟨h0, _⟩ | ⟨g', cap', cur, hv', hb, hg, hnc, hcm, hsz, htk⟩
  · simp at h0
  simp only [Value.slice.injEq, Option.some.injEq, Addr.mk.injEq, and_true, true_and] at hv'
  obtain ⟨rfl, rfl⟩ := hv'
  have hzs : (Builtin.zeroCells z.toArray (n - i)).toList.length = (n - i) * 3 := by rw [Array.length_toList, size_zeroCells, List.size_toArray, hzl]
  have hst := run_storeCells_at P g (i * 3) e (Builtin.zeroCells z.toArray (n - i)).toList 0 cur w hg (by rw [hzs, hsz]; omega) (zero_cells hz (by omega) _)
  have hfl : (rows.take i).flatten.length = i * 3 := by
    rw [flatten_len (fun x hx => h3 x (List.mem_of_mem_take hx)), List.length_take]
    congr 1
    omega
  have hhead : cur.toList.take (i * 3) = (rows.take i).flatten := by
    have e1 : rows.flatten = (rows.take i).flatten ++ (rows.drop i).flatten := by rw [← List.flatten_append, List.take_append_drop]
    have e2 : cur.toList.take (i * 3) = (cur.toList.take (n * 3)).take (i * 3) := by rw [List.take_take, Nat.min_eq_left (by omega)]
    rw [e2, htk, e1, List.take_append_of_le_length (by omega), List.take_of_length_le (by omega)]
  simp only [Nat.add_zero] at hst
  refine ⟨w.setRow g (cur.toList.take (i * 3) ++ (Builtin.zeroCells z.toArray (n - i)).toList ++ cur.toList.drop (i * 3 + (Builtin.zeroCells z.toArray (n - i)).toList.length)).toArray, fun ty => ?_, ⟨hfl, .inr ⟨g, cap, _, rfl, hb, setRow_heap w g _ _ e _ hg, by omega, hcm, ?_, ?_⟩⟩, mod_setRow w g _⟩
  rotate_left
  · rw [List.size_toArray, List.length_append, List.length_append, hzs, List.length_take, List.length_drop, Array.length_toList, hsz]
    omega
  · show List.take (i * 3) (cur.toList.take (i * 3) ++ _ ++ _) = _
    rw [List.append_assoc, List.take_append_of_le_length (by rw [List.length_take, Array.length_toList, hsz]; omega), List.take_take, Nat.min_self, hhead]
  · generalize hm : n - i = m at *
    obtain ⟨m', rfl⟩ : ∃ m', m = m' + 1 := ⟨m - 1, by omega⟩
    simp [Builtin.clear_, run_underlying ht, hv, Value.cells, hst]
end Go.Proofs.YtgjknekoehfdfaaGreatDoor
namespace Go.Proofs.YtgjknekoehfdfaaGreatDoor
open Go.RowKit Go.Sort
set_option linter.unusedVariables false
section
variable {α : Type} [Inhabited α] {enc : α → List Value} {k : Nat}
theorem flatK_list (hk0 : 0 < k) (hk : ∀ x, (enc x).length = k) (d : Array α) : (flatK enc k d).toList = (d.toList.map enc).flatten := by
  have hl : ∀ x ∈ d.toList.map enc, x.length = k := by
    intro x hx
    obtain ⟨a, _, rfl⟩ := List.mem_map.1 hx
    exact hk a
  have hfl : (d.toList.map enc).flatten.length = d.size * k := by rw [flatten_len hl, List.length_map, Array.length_toList]
  apply List.ext_getElem?
  intro t
  by_cases ht : t < d.size * k
  · have hq : t / k < d.size := (Nat.div_lt_iff_lt_mul hk0).2 ht
    have hm : t % k < k := Nat.mod_lt _ hk0
    have e1 : t = t / k * k + t % k := by rw [Nat.mul_comm]; exact (Nat.div_add_mod t k).symm
    have h1 : (d.toList.map enc)[t / k]? = some (enc d[t / k]!) := by
      rw [List.getElem?_map, Array.getElem?_toList, Array.getElem?_eq_getElem hq, getElem!_pos d _ hq]
      rfl
    have h2 : (enc d[t / k]!)[t % k]? = some (enc d[t / k]!)[t % k]! := by
      have h0 := hk d[t / k]!
      rw [List.getElem?_eq_getElem (by omega)]
      exact congrArg some (getElem!_pos _ _ _).symm
    have h3 := flatten_at hl h1 h2
    rw [← e1] at h3
    rw [h3, Array.getElem?_toList, Array.getElem?_eq_getElem (by rw [size_flatK]; exact ht), ← getElem!_pos, get_flatK _ _ _ _ ht]
  · rw [List.getElem?_eq_none (by rw [Array.length_toList, size_flatK]; omega), List.getElem?_eq_none (by omega)]
theorem own_holdsK {w : World} {base g cap n : Nat} {e : TypeId} {d : Array α} (hk0 : 0 < k) (hk : ∀ x, (enc x).length = k) (ho : w.ownsRow base e k (.slice (some ⟨g, 0, none⟩) n cap) n (d.toList.map enc).flatten) (hd : d.size = n) : HoldsK enc k w g 0 d ∧ g < w.heap.size ∧ n ≤ cap := by
  rcases ho.2 with ⟨h0, _⟩ | ⟨g', cap', cur, hv, hb, hg, h1, h2, h3, h4⟩
  · simp at h0
  simp only [Value.slice.injEq, Option.some.injEq, Addr.mk.injEq, and_true, true_and] at hv
  obtain ⟨rfl, rfl⟩ := hv
  refine ⟨fun j hj => ?_, (Array.getElem?_eq_some_iff.1 hg).1, h1⟩
  rw [size_flatK] at hj
  have e1 := flatK_list hk0 hk d
  refine ⟨?_, by simp [World.frozen?, hg]⟩
  have h5 : (cur.toList.take (n * k))[j]? = (flatK enc k d).toList[j]? := by rw [h4, e1]
  rw [List.getElem?_take_of_lt (by rw [← hd]; exact hj), Array.getElem?_toList, Array.getElem?_toList, Array.getElem?_eq_getElem (xs := flatK enc k d) (by rw [size_flatK]; exact hj), ← getElem!_pos] at h5
  simp only [World.cell?, hg, Nat.zero_add, id]
  simpa using h5
theorem own_sorted {w : World} {base g cap n m : Nat} {e : TypeId} {os : Array Obj} {d' : Array α} {xs : List Value} (hk0 : 0 < k) (hk : ∀ x, (enc x).length = k) (ho : w.ownsRow base e k (.slice (some ⟨g, 0, none⟩) n cap) n xs) (hd : d'.size = n) :
    (sortWorldK enc k w g 0 m d' os).ownsRow base e k (.slice (some ⟨g, 0, none⟩) n cap) n (d'.toList.map enc).flatten ∧ Mod (fun j => j = g) w (sortWorldK enc k w g 0 m d' os) := by
  rcases ho.2 with ⟨h0, _⟩ | ⟨g', cap', cur, hv, hb, hg, h1, h2, h3, h4⟩
  · simp at h0
  simp only [Value.slice.injEq, Option.some.injEq, Addr.mk.injEq, and_true, true_and] at hv
  obtain ⟨rfl, rfl⟩ := hv
  have hgl : g < w.heap.size := (Array.getElem?_eq_some_iff.1 hg).1
  have hl : ∀ x ∈ d'.toList.map enc, x.length = k := by
    intro x hx
    obtain ⟨a, _, rfl⟩ := List.mem_map.1 hx
    exact hk a
  have hfl : (d'.toList.map enc).flatten.length = n * k := by rw [flatten_len hl, List.length_map, Array.length_toList, hd]
  have hnk : n * k ≤ cap * k := Nat.mul_le_mul_right _ h1
  have hw : sortWorldK enc k w g 0 m d' os = grow (putRow id (Sort.ahead w m) g 0 (flatK enc k d')) os := rfl
  refine ⟨⟨hfl, .inr ⟨g, cap, putCells id 0 (flatK enc k d') cur, rfl, hb, ?_, h1, h2, by simp [putCells, h3], ?_⟩⟩, ?_⟩
  · rw [hw, heap_grow_old _ _ (by simpa using hgl)]
    simp [putRow, mapBlock, Sort.ahead, Array.getElem?_modify, hg, onCells]
  · have e2 := flatK_list hk0 hk d'
    have hF2 : (flatK enc k d').size = n * k := by rw [size_flatK, hd]
    rw [← e2]
    generalize flatK enc k d' = G at *
    apply List.ext_getElem?
    intro j
    by_cases hj : j < n * k
    · rw [List.getElem?_take_of_lt hj, Array.getElem?_toList, Array.getElem?_toList, Array.getElem?_eq_getElem (xs := G) (by omega), ← getElem!_pos]
      simp [putCells, hF2, hj, show j < cur.size by omega]
    · rw [List.getElem?_take_eq_none (by omega), List.getElem?_eq_none (by rw [Array.length_toList]; omega)]
  · refine ⟨rfl, rfl, rfl, by rw [hw]; simp, fun i hi hne => ?_⟩
    rw [hw, heap_grow_old _ _ (by simpa using hi)]
    have : g ≠ i := fun e => hne e.symm
    simp [putRow, mapBlock, Sort.ahead, Array.getElem?_modify, this]
end
end Go.Proofs.YtgjknekoehfdfaaGreatDoor
namespace Go.Proofs.YtgjknekoehfdfaaGreatDoor
open Go.RowKit
set_option linter.unusedVariables false

set_option maxHeartbeats 4000000 in
set_option maxRecDepth 100000 in
theorem indexC_Chg (g : Nat) (lb : Array Value) (eg : ∀ args w, (callFunc g args).run Tryz.prog w = .ok (.enter g args) w) (p : Nat → Bool) (w : World) (v : Value) (xs : List (List Value)) (h : RowAt w v 3 xs) (hl : ∀ x ∈ xs, x.length = 3)
    (hf : ∀ (W : World) (k : Nat) (x : List Value), Below w.heap.size w W → xs[k]? = some x → Calls Tryz.prog g (#[.agg x.toArray] ++ lb) W fun e W' => e = .returned (.bool (p k)) ∧ Below W.heap.size W W') :
    Calls Tryz.prog 115 #[v, .func (.func g) #[] lb] w fun e w' => ((e = .returned (.int .i64 (-1)) ∧ ∀ j, j < xs.length → p j = false) ∨ ∃ k : Nat, k < xs.length ∧ e = .returned (.int .i64 k) ∧ p k = true ∧ ∀ j, j < k → p j = false) ∧ Below w.heap.size w w' := by
  obtain ⟨ad, cap, rfl, hnc, hcm⟩ := h.form
  have hln := h.len
  have HR := Lib.hid h
  have HL := Lib.hid hl
  have HF := Lib.hid hf
  unfold maxLen at hcm
  generalize hn : xs.length = n at *
  have HN := Lib.hid hn
  clear h hl hf hn
  go_enter Tryz.func115, Tryz.ntmps115
  go_wp2_with fail
  go_loopw [5, 8] (fun _ i wr => ∃ k : Nat, k ≤ n ∧ i = .int .i64 k ∧ Hid (Below w.heap.size w wr) ∧ Hid (∀ j, j < k → p j = false)) (fun _ i _ => n - (intOf i).toNat)
  case atStart => exact ⟨0, Nat.zero_le _, rfl, Lib.hid (Below.refl _ _), Lib.hid (fun j hj => by omega)⟩
  case round =>
    obtain ⟨k, hk, rfl, HB, HP⟩ := hrel
    by_cases hlt : k < n
    · obtain ⟨x, hx⟩ : ∃ x, xs[k]? = some x := ⟨xs[k]'(by rw [HN.out]; exact hlt), List.getElem?_eq_getElem (by rw [HN.out]; exact hlt)⟩
      have hm : x ∈ xs := List.mem_of_getElem? hx
      obtain ⟨b, off, cap', hv, _, _, hbl, hce⟩ := (HR.out.keep HB.out).get hx
      rw [HN.out] at hv
      simp only [Value.slice.injEq, true_and] at hv
      obtain ⟨rfl, rfl⟩ := hv
      obtain ⟨e0, e1, e2, rfl⟩ := len3 (HL.out x hm)
      have q0 := hce 0 e0 rfl
      have q1 := hce 1 e1 rfl
      have q2 := hce 2 e2 rfl
      simp only [Nat.add_zero] at q0 q1 q2
      have hcall := HF.out wr k _ HB.out hx
      clear hce hm hx
      cases hq : p k with
      | true =>
        rw [hq] at hcall
        have HC := Lib.hid hcall
        have HQ := Lib.hid hq
        clear hcall hq
        go_wp2_with fail
        refine HC.out.mono ?_
        rintro e w' ⟨rfl, hb'⟩
        have HB' := Lib.hid hb'
        clear hb'
        go_wp2_with fail
        go_ret
        exact ⟨.inr ⟨k, hlt, rfl, HQ.out, HP.out⟩, HB.out.trans (HB'.out.mono HB.out.size)⟩
      | false =>
        rw [hq] at hcall
        have HC := Lib.hid hcall
        have HQ := Lib.hid hq
        clear hcall hq
        go_wp2_with fail
        refine HC.out.mono ?_
        rintro e w' ⟨rfl, hb'⟩
        have HB' := Lib.hid hb'
        clear hb'
        go_wp2_with fail
        go_roundw
        case rel =>
          refine ⟨k + 1, by omega, by go_num, Lib.hid (HB.out.trans (HB'.out.mono HB.out.size)), Lib.hid (fun j hj => ?_)⟩
          rcases Nat.lt_or_ge j k with h1 | h1
          · exact HP.out j h1
          · obtain rfl : j = k := by omega
            exact HQ.out
        case measure => simp [intOf]; omega
    · obtain rfl : k = n := by omega
      go_wp2_with fail
      go_ret
      exact ⟨.inl ⟨rfl, HP.out⟩, HB.out⟩

theorem zeroChg (w : World) : (zeroValue 30).run Tryz.prog w = .ok (.agg #[.bool false, .string ⟨#[]⟩, .slice none 0 0]) w := by kernel_rfl
/-- Is the k-th of these changes struck? -/
def hitN (f : Chg → Bool) (M : List Chg) (k : Nat) : Bool := match M[k]? with
  | some d => f d
  | none => false
theorem hitN_some {f : Chg → Bool} {M : List Chg} {k : Nat} {d : Chg} (h : M[k]? = some d) : hitN f M k = f d := by
  unfold hitN
  rw [h]
theorem filter_none {f : Chg → Bool} {M : List Chg} (h : ∀ j, j < M.length → hitN f M j = false) : M.filter (fun d => !f d) = M := by
  rw [List.filter_eq_self]
  intro d hd
  obtain ⟨k, hk⟩ := List.getElem?_of_mem hd
  have h1 := h k (List.getElem?_eq_some_iff.1 hk).1
  rw [hitN_some hk] at h1
  simp [h1]

set_option maxHeartbeats 8000000 in
set_option maxRecDepth 100000 in
theorem deleteC_any (g0 : Nat) (lb : Array Value) (eg : ∀ args w, (callFunc g0 args).run Tryz.prog w = .ok (.enter g0 args) w) (f : Chg → Bool) (B : Nat) (w : World) (v : Value) (M : List Chg) (h : ChgsOwn B w v M) (hM : M.length ≤ 8796093022208)
    (hf : ∀ (W : World) (d : Chg) (x : List Value), d ∈ M → Mod (fun j => v.ownBlock = some j) w W → ChgO B W x d → Calls Tryz.prog g0 (#[.agg x.toArray] ++ lb) W fun e W' => e = .returned (.bool (f d)) ∧ Below W.heap.size W W') :
    Calls Tryz.prog 43 #[v, .func (.func g0) #[] lb] w fun e w' => ∃ v', e = .returned v' ∧ ChgsOwn B w' v' (M.filter fun d => !f d) ∧ v'.ownBlock = v.ownBlock ∧ Mod (fun j => v.ownBlock = some j) w w' ∧ MT 0 [30] w w' := by
  have hnot : ∀ (x : Bool) (w : World), (Op.unary .not (.bool x)).run Tryz.prog w = .ok (.bool (!x)) w := fun _ _ => rfl
  obtain ⟨rows, hro, hall⟩ := h
  have hll := hall.length
  have h3 : ∀ x ∈ rows, x.length = 3 := by
    intro r hr
    obtain ⟨x, _, rv, rfl, _⟩ := all2_mem hall r hr
    rfl
  have hra := RowAt.ofOwn hro hll.symm h3 (by omega)
  have hix := indexC_Chg g0 lb eg (hitN f M) w v rows hra h3 (fun W k x hW hx => by
    obtain ⟨d, hd⟩ : ∃ d, M[k]? = some d := ⟨M[k]'(by rw [← hll]; exact (List.getElem?_eq_some_iff.1 hx).1), List.getElem?_eq_getElem _⟩
    obtain ⟨x', hx', hO⟩ := hall.get hd
    rw [hx] at hx'
    obtain rfl := Option.some.inj hx'
    rw [hitN_some hd]
    exact hf W d x (List.mem_of_getElem? hd) (Mod.ofBelow hW) (hO.mt (MT.ofBelow (B := 0) (Ts := []) hW) (by simp)))
  have HIX := Lib.hid hix
  have HALL := Lib.hid hall
  have HF := Lib.hid hf
  rw [hll] at HIX
  obtain ⟨FM, hFM⟩ : ∃ FM, FM = M.filter fun d => !f d := ⟨_, rfl⟩
  rw [← hFM]
  have HFM := Lib.hid hFM
  clear hix hra hFM hf
  generalize hN : M.length = n at *
  have HN := Lib.hid hN
  clear hN
  rcases hro.2 with ⟨rfl, hz⟩ | ⟨g, cap, cur, rfl, hB, hg, hnc, hcm, hcz, hct⟩
  · subst hz
    have HRO := Lib.hid hro
    clear hro hall hll h3
    go_enter Tryz.func43, Tryz.ntmps43
    go_wp2_with fail
    refine HIX.out.mono ?_
    rintro e w1 ⟨hcase, hb1⟩
    obtain rfl : e = .returned (.int .i64 (-1)) := by
      rcases hcase with ⟨h1, _⟩ | ⟨k, hk, _⟩
      · exact h1
      · omega
    have HB1 := Lib.hid hb1
    clear hb1 hcase
    go_wp2_with fail
    go_ret
    have hM0 : M = [] := List.eq_nil_of_length_eq_zero HN.out
    rw [HFM.out, hM0]
    exact ⟨_, rfl, ⟨[], World.ownsRow_nil _ _ _ _, trivial⟩, rfl, Mod.ofBelow HB1.out, MT.ofBelow HB1.out⟩
  · have hgl : g < w.heap.size := (Array.getElem?_eq_some_iff.1 hg).1
    unfold maxLen at hcm
    have HRO := Lib.hid hro
    have HL3 := Lib.hid (And.intro hll h3)
    have HBG := Lib.hid hg
    clear hro hall hll h3 hg hcz hct
    go_enter Tryz.func43, Tryz.ntmps43
    go_wp2_with fail
    refine HIX.out.mono ?_
    rintro e w1 ⟨hcase, hb1⟩
    rcases hcase with ⟨rfl, hno⟩ | ⟨k0, hk0, rfl, hp0, hlow⟩
    · have HB1 := Lib.hid hb1
      have HNO := Lib.hid hno
      clear hb1 hno
      go_wp2_with fail
      go_ret
      refine ⟨_, rfl, ?_, rfl, Mod.ofBelow HB1.out, MT.ofBelow HB1.out⟩
      rw [HFM.out, filter_none (by rw [HN.out]; exact HNO.out)]
      refine ⟨rows, ?_, HALL.out.mono fun b a hh => hh.mt (MT.ofBelow (B := 0) (Ts := []) HB1.out) (by simp)⟩
      rw [HN.out]
      exact (MT.ofBelow (B := 0) (Ts := []) HB1.out).ownsRow HRO.out (by simp)
    · have hne : ((k0 : Int) == -1) = false := beq_eq_false_iff_ne.2 (by omega)
      have hne2 : ¬ ((k0 : Int) = -1) := by omega
      have HB1 := Lib.hid hb1
      have hs0 : rows.take k0 = keepN (hitN f M) 0 (rows.take (k0 + 1)) := by
        obtain ⟨x, hx⟩ : ∃ x, rows[k0]? = some x := ⟨rows[k0]'(by rw [HL3.out.1]; exact hk0), List.getElem?_eq_getElem _⟩
        have hlt : (rows.take k0).length = k0 := by rw [List.length_take, HL3.out.1]; omega
        rw [List.take_add_one, hx]
        show _ = keepN (hitN f M) 0 (rows.take k0 ++ [x])
        rw [keepN_snoc, hlt, Nat.zero_add, if_pos hp0, List.append_nil, keepN_none 0 _ (fun j _ hj => hlow j (by rw [hlt] at hj; omega))]
      have HS0 := Lib.hid hs0
      clear hb1 hs0 hp0 hlow
      go_wp2_with fail
      go_loopw [5, 6, 7] (fun iv jv _ wr => ∃ (i j : Nat) (R : List (List Value)), i < j ∧ j ≤ n ∧ iv = .int .i64 i ∧ jv = .int .i64 j ∧ Hid (wr.ownsRow B 30 3 (.slice (some ⟨g, 0, none⟩) n cap) n R.flatten) ∧ Hid (R.length = n ∧ ∀ x ∈ R, x.length = 3) ∧ Hid (R.take i = keepN (hitN f M) 0 (rows.take j)) ∧ Hid (R.drop j = rows.drop j) ∧ Hid (Mod (fun q => q = g) w wr) ∧ Hid (MT 0 [30] w wr)) (fun _ jv _ _ => n - (intOf jv).toNat)
      case atStart => exact ⟨k0, k0 + 1, rows, by omega, by omega, rfl, by go_num, Lib.hid ((MT.ofBelow (B := 0) (Ts := []) HB1.out).ownsRow HRO.out (by simp)), HL3, HS0, Lib.hid rfl, Lib.hid (Mod.ofBelow HB1.out), Lib.hid (MT.ofBelow HB1.out)⟩
      case round =>
        obtain ⟨i, j, R, hij, hjn, rfl, rfl, HO, HL, HT, HD, HM1, HM2⟩ := hrel
        obtain ⟨wo, rfl⟩ : ∃ wo : World, wo = wr := ⟨_, rfl⟩
        by_cases hlt : j < n
        · obtain ⟨d, hd⟩ : ∃ d, M[j]? = some d := ⟨M[j]'(by rw [HN.out]; exact hlt), List.getElem?_eq_getElem _⟩
          obtain ⟨x, hx, hO⟩ := HALL.out.get hd
          have hxR : R[j]? = some x := by
            have h1 : (R.drop j)[0]? = (rows.drop j)[0]? := by rw [HD.out]
            rw [List.getElem?_drop, List.getElem?_drop, Nat.add_zero] at h1
            rw [h1, hx]
          have hO2 := hO.mt HM2.out (by decide)
          obtain ⟨rv, rfl, hrv⟩ := hO2
          obtain ⟨ra, rc, rfl⟩ := own_sl hrv
          have hra := RowAt.ofOwn HO.out HL.out.1.symm HL.out.2 (by rw [HL.out.1]; omega)
          obtain ⟨b1, o1, cap1, hv1, _, _, hl1, hc1⟩ := hra.get hxR
          rw [HL.out.1] at hv1
          simp only [Value.slice.injEq, Option.some.injEq, Addr.mk.injEq, and_true, true_and] at hv1
          obtain ⟨⟨rfl, rfl⟩, rfl⟩ := hv1
          have q0 := hc1 0 _ rfl
          have q1 := hc1 1 _ rfl
          have q2 := hc1 2 _ rfl
          simp only [Nat.add_zero, Nat.zero_add] at q0 q1 q2
          have hit := hitN_some (f := f) hd
          have hkn : keepN (hitN f M) 0 (rows.take (j + 1)) = keepN (hitN f M) 0 (rows.take j) ++ if f d then [] else [[.bool d.add, .string ⟨d.rel.toArray⟩, .slice ra d.row.length rc]] := by
            have hlj : (rows.take j).length = j := by rw [List.length_take, HL3.out.1]; omega
            rw [List.take_add_one, hx]
            show keepN (hitN f M) 0 (rows.take j ++ [_]) = _
            rw [keepN_snoc, hlj, Nat.zero_add, hit]
          have HKN := Lib.hid hkn
          have HXR := Lib.hid hxR
          have HXX := Lib.hid hx
          have bx := Blk.new wo 30 #[.bool d.add, .string ⟨d.rel.toArray⟩, .slice ra d.row.length rc]
          have hbx : Below wo.heap.size wo (wo.alloc (.cells #[.bool d.add, .string ⟨d.rel.toArray⟩, .slice ra d.row.length rc] 30)) := balloc (Below.refl _ _) _
          obtain ⟨W1, hW1⟩ : ∃ W1, wo.alloc (.cells #[.bool d.add, .string ⟨d.rel.toArray⟩, .slice ra d.row.length rc] 30) = W1 := ⟨_, rfl⟩
          rw [hW1] at bx hbx
          have HW1 := Lib.hid hW1
          have hcall := HF.out W1 d [.bool d.add, .string ⟨d.rel.toArray⟩, .slice ra d.row.length rc] (List.mem_of_getElem? hd) ((HM1.out.trans (Mod.ofBelow (F := fun q => q = g) hbx) (fun _ _ h => h)).mono fun q _ e => by rw [e]; rfl) ⟨_, rfl, (MT.ofBelow (B := 0) (Ts := []) hbx).ownsRow hrv (by simp)⟩
          have HCALL := Lib.hid hcall
          have HBX := Lib.hid hbx
          have HBK := Lib.hid bx
          have x0 := bx.cell 0
          have x1 := bx.cell 1
          have x2 := bx.cell 2
          have xl := bx.lt
          simp only [List.getElem?_toArray, List.getElem?_cons_zero, List.getElem?_cons_succ] at x0 x1 x2
          have hdj : decide ((j : Int) < 0) = false := by simp
          have hdn : decide ((n : Int) ≤ (j : Int)) = false := by simp; omega
          have hdi : decide ((i : Int) < 0) = false := by simp
          have hdin : decide ((n : Int) ≤ (i : Int)) = false := by simp; omega
          clear hd hx hO hxR hrv hra hc1 hit hkn bx hbx hW1 hcall
          generalize hFD : f d = fd at *
          have HFD := Lib.hid hFD
          clear hFD
          go_upto_region 8 with fail
          rw [HW1.out]
          clear q0 q1 q2
          go_wp2_with fail
          refine HCALL.out.mono ?_
          rintro e w5 ⟨rfl, hb5⟩
          have hb15 := bt2 HBX.out hb5
          have HB5 := Lib.hid hb15
          have bk5 := HBK.out.below hb5 HBK.out.lt
          have y0 := bk5.cell 0
          have y1 := bk5.cell 1
          have y2 := bk5.cell 2
          have yl := bk5.lt
          simp only [List.getElem?_toArray, List.getElem?_cons_zero, List.getElem?_cons_succ] at y0 y1 y2
          have ho5 := (MT.ofBelow (B := 0) (Ts := []) hb15).ownsRow HO.out (by simp)
          have hm15 := HM1.out.trans (Mod.ofBelow (F := fun q => q = g) hb15) (fun _ _ h => h)
          have hm25 := HM2.out.plusBelow hb15
          have HO5 := Lib.hid ho5
          have HM15 := Lib.hid hm15
          have HM25 := Lib.hid hm25
          clear x0 x1 x2 xl hb5 hb15 bk5 hm15 hm25 HCALL
          cases fd with
          | true =>
            clear ho5 y0 y1 y2 yl
            go_wp2_with fail
            go_roundw
            case rel => exact ⟨i, j + 1, R, by omega, by omega, rfl, by go_num, HO5, HL, Lib.hid (by rw [HT.out, HKN.out]; simp), Lib.hid (by rw [← List.tail_drop, ← List.tail_drop, HD.out]), HM15, HM25⟩
            case measure => simp [intOf]; omega
          | false =>
            obtain ⟨⟨u0, z0⟩, f0, _⟩ := own_cell ho5 (k := i) (by omega) (j := 0) (by decide)
            obtain ⟨⟨u1, z1⟩, f1, _⟩ := own_cell ho5 (k := i) (by omega) (j := 1) (by decide)
            obtain ⟨⟨u2, z2⟩, f2, hgl5⟩ := own_cell ho5 (k := i) (by omega) (j := 2) (by decide)
            simp only [Nat.add_zero] at z0 f0
            have hs := own_set3 (a := .bool d.add) (b := .string ⟨d.rel.toArray⟩) (c := .slice ra d.row.length rc) ho5 HL.out.2 HL.out.1 (k := i) (by omega) rfl rfl rfl
            have hmt := mt_own (Ts := [30]) hs.2 ho5 (by simp)
            have HS := Lib.hid hs
            have HMT := Lib.hid hmt
            clear ho5 hs hmt
            go_wp2_with fail
            go_roundw
            case rel =>
              refine ⟨i + 1, j + 1, R.set i _, by omega, by omega, by go_num, by go_num, Lib.hid HS.out.1, Lib.hid ⟨by rw [List.length_set]; exact HL.out.1, set_all HL.out.2 rfl⟩, Lib.hid ?_, Lib.hid ?_, Lib.hid (HM15.out.trans HS.out.2 (fun _ _ h => h)), Lib.hid (HM25.out.trans HMT.out)⟩
              · rw [set_take (by rw [HL.out.1]; omega), HT.out, HKN.out]
                rfl
              · rw [List.drop_set_of_lt (by omega), ← List.tail_drop, ← List.tail_drop, HD.out]
            case measure => simp [intOf]; omega
        · obtain rfl : j = n := by omega
          obtain ⟨w9, hcl, hown9, hm9⟩ := clear_tail (P := Tryz.prog) (t := 22) (c := cap - i) Tryz.underlying22 zeroChg (z := [.bool false, .string ⟨#[]⟩, .slice none 0 0]) (by simp [Value.oneCell']) rfl HO.out HL.out.2 HL.out.1 hij
          have hmt9 := mt_own (Ts := [30]) hm9 HO.out (by simp)
          have hT := HT.out
          rw [List.take_of_length_le (l := rows) (by rw [HL3.out.1]; exact Nat.le_refl _)] at hT
          have ha2 := all2_keepN (p := hitN f M) (f := f) 0 HALL.out (fun k b hb => by rw [Nat.zero_add]; exact hitN_some hb)
          rw [← HFM.out, ← hT] at ha2
          have hln : FM.length = i := by
            rw [← ha2.length, List.length_take, HL.out.1]
            omega
          have HW9 := Lib.hid (And.intro hown9 (And.intro hm9 hmt9))
          have HA2 := Lib.hid ha2
          have HLN := Lib.hid hln
          have hdi : decide ((i : Int) < 0) = false := by simp
          have hdc : decide ((cap : Int) < (i : Int)) = false := by simp; omega
          have hdn2 : decide ((j : Int) < (i : Int)) = false := by simp; omega
          clear hown9 hm9 hmt9 hT ha2 hln
          go_wp2_with fail
          go_ret
          refine ⟨_, rfl, ⟨R.take i, ?_, ?_⟩, rfl, ?_, ?_⟩
          · rw [HLN.out]
            exact HW9.out.1
          · exact HA2.out.mono fun b a hh => (hh.mt HM2.out (by decide)).mt HW9.out.2.2 (by decide)
          · exact (HM1.out.trans HW9.out.2.1 (fun _ _ h => h)).mono fun q _ e => by rw [e]; rfl
          · exact HM2.out.trans HW9.out.2.2
end Go.Proofs.YtgjknekoehfdfaaGreatDoor
namespace Go.Proofs.YtgjknekoehfdfaaGreatDoor
open Go.RowKit Go.Sort
set_option linter.unusedVariables false

set_option maxHeartbeats 4000000 in
set_option maxRecDepth 100000 in
theorem netSame_any (W : World) (bc : Nat) (c d : Chg) (rv ru : Value) (hb : Blk W bc 30 #[.bool c.add, .string ⟨c.rel.toArray⟩, rv]) (h : RowAt W rv 3 (c.row.map Vl.cells)) (h2 : RowAt W ru 3 (d.row.map Vl.cells)) :
    Calls Tryz.prog 41 #[.agg #[.bool d.add, .string ⟨d.rel.toArray⟩, ru], .pointer (some ⟨bc, 0, none⟩)] W fun e W' => e = .returned (.bool (decide (cmpRow c.row d.row = 0))) ∧ Below W.heap.size W W' := by
  have hb0 : Below W.heap.size W (W.alloc (.cells #[.bool d.add, .string ⟨d.rel.toArray⟩, ru] 30)) := balloc (Below.refl _ _) _
  have hsm := rowCompare_any _ rv ru c.row d.row (h.keep hb0) (h2.keep hb0)
  obtain ⟨ra, rc, rfl, _, _⟩ := h.form
  obtain ⟨ua, uc, rfl, _, _⟩ := h2.form
  have x2 := hb.cell 2
  have xl := hb.lt
  simp only [List.getElem?_toArray, List.getElem?_cons_zero, List.getElem?_cons_succ] at x2
  have HSM := Lib.hid hsm
  have HB0 := Lib.hid hb0
  clear h h2 hsm hb0 hb
  generalize (c.row.map Vl.cells).length = n at *
  generalize (d.row.map Vl.cells).length = m at *
  generalize c.add = ad at *
  generalize d.add = ad2 at *
  generalize (⟨c.rel.toArray⟩ : ByteArray) = nm at *
  generalize (⟨d.rel.toArray⟩ : ByteArray) = nm2 at *
  generalize cmpRow c.row d.row = r at *
  obtain ⟨RES, hRES⟩ : ∃ RES, RES = decide (r = 0) := ⟨_, rfl⟩
  rw [← hRES]
  have HR := Lib.hid hRES
  clear hRES
  go_enter Tryz.func41, Tryz.ntmps41
  go_wp2_with fail
  refine HSM.out.mono ?_
  rintro e w6 ⟨rfl, hb6⟩
  have HB6 := Lib.hid (HB0.out.trans (hb6.mono HB0.out.size))
  clear hb6
  by_cases h0 : r = 0
  · have q0 : (r == 0) = true := by simpa using h0
    have q1 : RES = true := by rw [HR.out]; simpa using h0
    subst q1
    clear HR
    go_wp2_with fail
    go_ret
    exact ⟨by first | rfl | simp, HB6.out⟩
  · have q0 : (r == 0) = false := by simpa using h0
    have q1 : RES = false := by rw [HR.out]; simpa using h0
    subst q1
    clear HR
    go_wp2_with fail
    go_ret
    exact ⟨by first | rfl | simp, HB6.out⟩

set_option maxHeartbeats 4000000 in
set_option maxRecDepth 100000 in
theorem netCmp_any (W : World) (c d : Chg) (rv ru : Value) (h : RowAt W rv 3 (c.row.map Vl.cells)) (h2 : RowAt W ru 3 (d.row.map Vl.cells)) :
    Calls Tryz.prog 48 #[.agg #[.bool c.add, .string ⟨c.rel.toArray⟩, rv], .agg #[.bool d.add, .string ⟨d.rel.toArray⟩, ru]] W fun e W' => e = .returned (.int .i64 (cmpRow c.row d.row)) ∧ Grw W W' := by
  have hb0 : Grw W ((W.alloc (.cells #[.bool c.add, .string ⟨c.rel.toArray⟩, rv] 30)).alloc (.cells #[.bool d.add, .string ⟨d.rel.toArray⟩, ru] 30)) := ((Grw.refl _).alloc _).alloc _
  have hsm := rowCompareG_any _ rv ru c.row d.row (h.keep hb0.b) (h2.keep hb0.b)
  obtain ⟨ra, rc, rfl, _, _⟩ := h.form
  obtain ⟨ua, uc, rfl, _, _⟩ := h2.form
  have HSM := Lib.hid hsm
  have HB0 := Lib.hid hb0
  clear h h2 hsm hb0
  generalize (c.row.map Vl.cells).length = n at *
  generalize (d.row.map Vl.cells).length = m at *
  generalize c.add = ad at *
  generalize d.add = ad2 at *
  generalize (⟨c.rel.toArray⟩ : ByteArray) = nm at *
  generalize (⟨d.rel.toArray⟩ : ByteArray) = nm2 at *
  generalize cmpRow c.row d.row = r at *
  go_enter Tryz.func48, Tryz.ntmps48
  go_wp2_with fail
  refine HSM.out.mono ?_
  rintro e w6 ⟨rfl, hb6⟩
  have HB6 := Lib.hid (HB0.out.trans hb6)
  clear hb6
  go_wp2_with fail
  go_ret
  exact ⟨by first | rfl | simp, HB6.out⟩

/-- A change whose row is the call's own, as the sort's element. -/
structure CO (B : Nat) (w : World) where
  cells : List Value
  c : Chg
  own : ChgO B w cells c
  small : c.row.length ≤ 4398046511104
theorem co_list {B : Nat} {w : World} : ∀ {rows : List (List Value)} {M : List Chg}, All2 (ChgO B w) rows M → (∀ c ∈ M, c.row.length ≤ 4398046511104) → ∃ el : List (CO B w), el.map CO.cells = rows ∧ el.map CO.c = M
  | [], [], _, _ => ⟨[], rfl, rfl⟩
  | r :: rows, c :: M, h, hr => by
    obtain ⟨el, h1, h2⟩ := co_list h.2 fun x hx => hr x (List.mem_cons_of_mem _ hx)
    exact ⟨⟨r, c, h.1, hr c List.mem_cons_self⟩ :: el, by simp [h1], by simp [h2]⟩
  | [], _ :: _, h, _ => h.elim
  | _ :: _, [], h, _ => h.elim
theorem CO.len {B : Nat} {w : World} (x : CO B w) : x.cells.length = 3 := by
  obtain ⟨rv, h, _⟩ := x.own
  rw [h]
  rfl
theorem CO.one {B : Nat} {w : World} (x : CO B w) : ∀ v ∈ x.cells, v.oneCell' = true := by
  obtain ⟨rv, h, h2⟩ := x.own
  obtain ⟨ua, uc, rfl⟩ := own_sl h2
  rw [h]
  intro v hv
  simp only [List.mem_cons, List.not_mem_nil, or_false] at hv
  rcases hv with rfl | rfl | rfl <;> rfl
theorem swo_row {B : Nat} {w : World} : SWO (ltOf fun x y : CO B w => cmpRow x.c.row y.c.row) where
  irrefl x := by simp [ltOf, cmpRow_self]
  trans x y z h1 h2 := by
    simp only [ltOf, decide_eq_true_eq] at *
    exact cmpRow_trans _ _ _ h1 h2
  ntrans x y z h1 h2 := by
    simp only [ltOf, decide_eq_false_iff_not] at *
    intro h3
    have a1 := cmpRow_anti x.c.row y.c.row
    by_cases h0 : cmpRow x.c.row y.c.row = 0
    · rw [← cmpRow_eq _ _ h0] at h2
      exact h2 h3
    · exact h2 (cmpRow_trans _ _ _ (by omega) h3)
theorem all2_co {B : Nat} {w W : World} (h : MT 0 [30] w W) : ∀ (l : List (CO B w)), All2 (ChgO B W) (l.map CO.cells) (l.map CO.c)
  | [] => trivial
  | x :: l => ⟨x.own.mt h (by decide), all2_co h l⟩

set_option maxRecDepth 100000 in
theorem sortC_any (B : Nat) (w : World) (g n cap : Nat) (M : List Chg) (h : ChgsOwn B w (.slice (some ⟨g, 0, none⟩) n cap) M) (hn : M.length = n) (h0 : 0 < n) (hl : n < 4611686018427387904) (hr : ∀ c ∈ M, c.row.length ≤ 4398046511104) :
    Calls Tryz.prog 47 #[.slice (some ⟨g, 0, none⟩) n cap, .func (.func 48) #[] #[]] w fun e w' => e = .returned (.tuple #[]) ∧
      ∃ s : List Chg, s.Perm M ∧ s.Pairwise (fun x y => ¬ cmpRow y.row x.row < 0) ∧ ChgsOwn B w' (.slice (some ⟨g, 0, none⟩) n cap) s ∧ Mod (fun j => j = g) w w' ∧ MT 0 [30] w w' := by
  obtain ⟨rows, hro, hall⟩ := h
  obtain ⟨el, he1, he2⟩ := co_list hall hr
  rw [hn] at hro
  have hel : el.length = n := by rw [← hn, ← he2, List.length_map]
  haveI : Inhabited (CO B w) := ⟨el[0]'(by omega)⟩
  have hk : ∀ x : CO B w, (CO.cells x).length = 3 := fun x => x.len
  have hro' : w.ownsRow B 30 3 (.slice (some ⟨g, 0, none⟩) n cap) n (el.toArray.toList.map CO.cells).flatten := by
    rw [List.toList_toArray, he1]
    exact hro
  have hds : el.toArray.size = n := by simpa using hel
  obtain ⟨hH, hgl, hnc⟩ := own_holdsK (k := 3) (by decide) hk hro' hds
  obtain ⟨_, _, cs, hblk⟩ := ChgsOwn.block (g := g) (show ChgsOwn B w (.slice (some ⟨g, 0, none⟩) n cap) M from ⟨rows, by rw [hn]; exact hro, hall⟩) rfl
  have hmt : ∀ (m : Nat) (os : Array Obj) (dk : Array (CO B w)), dk.size = n → MT 0 [30] w (sortWorldK CO.cells 3 w g 0 m dk os) := fun m os dk hs =>
    MT.ofMod (own_sorted (k := 3) (by decide) hk hro hs).2 hblk (by simp) (Nat.zero_le _)
  have hcmp : CmpLays Tryz.prog 48 #[] CO.cells 3 (fun x y : CO B w => cmpRow x.c.row y.c.row) g 0 n w := by
    intro m os dk hs x y
    obtain ⟨rv, hx, hx2⟩ := x.own
    obtain ⟨ru, hy, hy2⟩ := y.own
    have hm := hmt m os dk hs
    rw [hx, hy]
    refine (netCmp_any _ x.c y.c rv ru ?_ ?_).mono fun e W' hh => ⟨hh.1, hh.2.form⟩
    · exact RowAt.ofOwn (hm.ownsRow hx2 (by decide)) (by simp) (vl_len _) (by have := x.small; simp; omega)
    · exact RowAt.ofOwn (hm.ownsRow hy2 (by decide)) (by simp) (vl_len _) (by have := y.small; simp; omega)
  have eg : ∀ args w, (callFunc 48 args).run Tryz.prog w = .ok (.enter 48 args) w := enters_of Tryz.func48 (by kernel_rfl) rfl
  have hcon := AnyQ.slices_SortFunc Tryz.sortChg 3 Tryz.isAgg30 Tryz.sizeOf30 CO.cells hk (fun x => x.one) (fun x y : CO B w => cmpRow x.c.row y.c.row) swo_row 48 #[] g 0 cap el.toArray w eg (by rw [hds]; exact hcmp) hH hgl (by rw [hds]; exact hl)
  rw [hds] at hcon
  refine Calls.mono hcon ?_
  rintro e w' ⟨rfl, d', m, os, hp, hs, rfl⟩
  have hd' : d'.size = n := by rw [hp.1, hds]
  have hpl : d'.toList.Perm el := by
    have h1 := hp.2.2
    have e1 : (d'.extract 0 n).toList = d'.toList := by
      rw [Array.toList_extract]
      simp [← hd']
      exact List.take_of_length_le (Nat.le_of_eq Array.length_toList)
    have e2 : (el.toArray.extract 0 n).toList = el := by
      rw [Array.toList_extract]
      simp [← hel]
    rw [e1, e2] at h1
    exact h1
  refine ⟨rfl, d'.toList.map CO.c, ?_, ?_, ⟨d'.toList.map CO.cells, ?_, all2_co (hmt m os d' hd') _⟩, (own_sorted (k := 3) (by decide) hk hro hd').2, hmt m os d' hd'⟩
  · rw [← he2]
    exact hpl.map _
  · rw [List.pairwise_map, List.pairwise_iff_getElem]
    intro i j hi hj hij
    have h1 := hs i j (Nat.zero_le _) hij (by rw [Array.length_toList] at hj; omega)
    simp only [ltOf, decide_eq_false_iff_not] at h1
    rw [Array.length_toList] at hi hj
    rw [getElem!_pos d' i hi, getElem!_pos d' j hj] at h1
    simpa using h1
  · rw [List.length_map, Array.length_toList, hd']
    exact (own_sorted (k := 3) (by decide) hk hro hd').1
end Go.Proofs.YtgjknekoehfdfaaGreatDoor
