/- query.Plain, walked. -/
import Derived.Test.YtgilflkgibfjgaaDoorQpaZ
import Derived.Test.YtgilflkgibfjgaaDoorCv
import Derived.Test.YtgilflkgibfjgaaDoorCqZ
import Derived.Deep.RegionLaw
import Derived.Deep.Light
namespace Go.Proofs.YtgilflkgibfjgaaDoor
open Go.RowKit Go.Maps
set_option linter.unusedVariables false

section
variable {L r p o : List (List UInt8)} {s : List UInt8} {q : Qry}
theorem vNo_pre (h : s ∈ L) : vNo (L ++ r) s = vNo L s := by
  unfold vNo
  rw [idx_pre h rfl]
theorem addN_mem (L : List (List UInt8)) (s : List UInt8) : s ∈ addN L s := by
  unfold addN
  split
  · assumption
  · simp
theorem fold_len : ∀ (l o : List (List UInt8)), (l.foldl addN o).length ≤ o.length + l.length
  | [], o => by simp
  | x :: l, o => by
    have h1 := fold_len l (addN o x)
    have h2 : (addN o x).length ≤ o.length + 1 := by
      unfold addN
      split
      · omega
      · simp
    rw [List.foldl_cons, List.length_cons]
    omega
theorem fold_snoc (p : List (List UInt8)) (s : List UInt8) : (p ++ [s]).foldl addN [] = addN (p.foldl addN []) s := by rw [List.foldl_append]; rfl
/-- The name at its place. -/
theorem name_at (h : oldQ q = p ++ s :: r) : vNo (addN (p.foldl addN []) s) s = vNo (seenQ q) s := by
  have e : oldQ q = (p ++ [s]) ++ r := by rw [h]; simp
  obtain ⟨r', hr⟩ := fold_pre r ((p ++ [s]).foldl addN [])
  have hs : seenQ q = (p ++ [s]).foldl addN [] ++ r' := by
    unfold seenQ
    rw [e, List.foldl_append]
    exact hr
  rw [hs, fold_snoc, vNo_pre (addN_mem _ _)]
theorem varsL_snoc (ts : List Trm) (t : Trm) : varsL (ts ++ [t]) = varsL ts ++ (if t.x = [] then [] else [t.x]) := by
  unfold varsL
  rw [List.map_append, List.filter_append]
  congr 1
  by_cases h : t.x = [] <;> simp [h]
end

theorem flat_setP {sz : Nat} (hz : 0 < sz) : ∀ (rows : List (List Value)) (j : Nat) (x : List Value) (u : Value), (∀ y ∈ rows, y.length = sz) → rows[j]? = some x → rows.flatten.set (j * sz) u = (rows.set j (x.set 0 u)).flatten
  | [], j, x, u, _, h => by simp at h
  | a :: l, 0, x, u, hl, h => by
    simp at h
    subst h
    have ha := hl a List.mem_cons_self
    rw [List.flatten_cons, Nat.zero_mul, List.set_append_left _ _ (by omega)]
    rfl
  | a :: l, j + 1, x, u, hl, h => by
    have ha := hl a List.mem_cons_self
    have ih := flat_setP hz l j x u (fun y hy => hl y (List.mem_cons_of_mem _ hy)) (by simpa using h)
    rw [List.flatten_cons, List.set_append_right _ _ (by rw [ha, Nat.succ_mul]; omega), List.set_cons_succ, List.flatten_cons, ← ih]
    congr 2
    rw [ha, Nat.succ_mul]
    omega
/-- The terms told so far. -/
def midT (S : List (List UInt8)) (ts : List Trm) (j : Nat) : List Trm := (ts.take j).map (pTm S) ++ ts.drop j
theorem midT_zero (S : List (List UInt8)) (ts : List Trm) : midT S ts 0 = ts := by simp [midT]
theorem midT_all (S : List (List UInt8)) (ts : List Trm) : midT S ts ts.length = ts.map (pTm S) := by simp [midT]
theorem midT_len (S : List (List UInt8)) (ts : List Trm) (j : Nat) : (midT S ts j).length = ts.length := by
  simp only [midT, List.length_append, List.length_map, List.length_take, List.length_drop]
  omega
theorem midT_get {S : List (List UInt8)} {ts : List Trm} {j : Nat} {t : Trm} (h : ts[j]? = some t) : (midT S ts j)[j]? = some t := by
  have hj := (List.getElem?_eq_some_iff.1 h).1
  unfold midT
  rw [List.getElem?_append_right (by simp; omega)]
  simp only [List.length_map, List.length_take, Nat.min_eq_left (Nat.le_of_lt hj), Nat.sub_self]
  rw [List.getElem?_drop]
  simpa using h
theorem midT_step {S : List (List UInt8)} {ts : List Trm} {j : Nat} {t : Trm} (h : ts[j]? = some t) : midT S ts (j + 1) = (midT S ts j).set j (pTm S t) := by
  have hj := (List.getElem?_eq_some_iff.1 h).1
  unfold midT
  rw [List.set_append_right _ _ (by simp; omega), List.take_add_one, h]
  simp only [List.length_map, List.length_take, Nat.min_eq_left (Nat.le_of_lt hj), Nat.sub_self]
  rw [List.drop_eq_getElem_cons hj, List.set_cons_zero]
  simp
theorem midT_same {S : List (List UInt8)} {ts : List Trm} {j : Nat} {t : Trm} (h : ts[j]? = some t) (hx : t.x = []) : midT S ts (j + 1) = midT S ts j := by
  rw [midT_step h, show pTm S t = t from if_pos hx]
  obtain ⟨hl, he⟩ := List.getElem?_eq_some_iff.1 (midT_get (S := S) h)
  have := @List.set_getElem_self _ (midT S ts j) j hl
  rw [he] at this
  exact this
/-- Atoms of the call's own. -/
def AtmsOwn (B : Nat) (w : World) (v : Value) (al : List Atm) : Prop := ∃ rows : List (List Value), w.ownsRow B 33 2 v al.length rows.flatten ∧ All2 (AtmO B w) rows al
theorem AtmsOwn.mod {B : Nat} {F : Nat → Prop} {w w' : World} {v : Value} {al : List Atm} (h : AtmsOwn B w v al) (hm : Mod F w w') (hn : ∀ (e : TypeId) (size n : Nat) (u : Value) (xs : List Value), w.ownsRow B e size u n xs → ∀ k, u.ownBlock = some k → ¬ F k) : AtmsOwn B w' v al := by
  obtain ⟨rows, h1, h2⟩ := h
  exact ⟨rows, hm.ownsRow h1 (hn _ _ _ _ _ h1), h2.mono fun b a ⟨tv, e, h3⟩ => ⟨tv, e, hm.ownsRow h3 (hn _ _ _ _ _ h3)⟩⟩
theorem AtmsOwn.mt {B B' : Nat} {Ts : List TypeId} {w w' : World} {v : Value} {al : List Atm} (h : AtmsOwn B w v al) (hm : MT B' Ts w w') (h1 : 33 ∉ Ts) (h2 : 47 ∉ Ts) : AtmsOwn B w' v al := by
  obtain ⟨rows, h3, h4⟩ := h
  exact ⟨rows, hm.ownsRow h3 h1, h4.mono fun b a hh => hh.mt hm h2⟩
section
variable {w w' : World} {e : TypeId} {b : Nat} {l : List (List UInt8)} {f : List UInt8 → Int}
theorem NumMap.isMap (h : NumMap w e b l f) : ∃ es clock, w.heap[b]? = some (.map es clock) := by
  obtain ⟨D, ⟨es, clock, h1, _⟩, _⟩ := h
  exact ⟨es, clock, h1⟩
theorem NumMap.ne_blk (h : NumMap w e b l f) {g : Nat} {t : TypeId} {cs : Array Value} (k : Blk w g t cs) : g ≠ b := by
  rintro rfl
  obtain ⟨es, clock, h1⟩ := h.isMap
  rw [show w.heap[g]? = _ from k] at h1
  cases h1
theorem NumMap.ne_own (h : NumMap w e b l f) {base : Nat} {t : TypeId} {size n : Nat} {v : Value} {xs : List Value} (ho : w.ownsRow base t size v n xs) : ∀ q, v.ownBlock = some q → q ≠ b := by
  intro q hq
  rcases ho.2 with ⟨rfl, _⟩ | ⟨g, cap, cur, rfl, _, hh, _⟩
  · simp [Value.ownBlock] at hq
  · simp [Value.ownBlock] at hq
    subst hq
    exact h.ne_blk (cs := cur) hh
end

/-- The state of Plain: the names so far, the boxes, what is told so far. -/
structure PlM (w W : World) (bm bn bo bq br : Nat) (Qc : Array Value) (name : ByteArray) (hv av : Value) (L H : List (List UInt8)) (A : List Atm) : Prop where
  mp : NumMap W 3 bm L (idxF L)
  nb : Blk W bn 98 #[.map (some bm)]
  ob : Blk W bo 25 #[.string name, hv, av]
  hd : OwnS w.heap.size W hv H
  am : AtmsOwn w.heap.size W av A
  bel : Below w.heap.size w W
  qb : Blk W bq 25 Qc
  rb : Blk W br 25 #[.string ⟨#[]⟩, .slice none 0 0, .slice none 0 0]
section
variable {w W W' : World} {bm bn bo bq br : Nat} {Qc : Array Value} {name : ByteArray} {hv av : Value} {L H : List (List UInt8)} {A : List Atm}
/-- The map told anew, all else as it lay. -/
theorem PlM.step {L' : List (List UInt8)} (h : PlM w W bm bn bo bq br Qc name hv av L H A) (hm : NumMap W' 3 bm L' (idxF L')) (hmod : Mod (fun k => k = bm) W W') (hb : w.heap.size ≤ bm) : PlM w W' bm bn bo bq br Qc name hv av L' H A :=
  ⟨hm, h.nb.mod hmod (h.mp.ne_blk h.nb), h.ob.mod hmod (h.mp.ne_blk h.ob), hmod.ownsRow h.hd (h.mp.ne_own h.hd), h.am.mod hmod (fun _ _ _ _ _ ho => h.mp.ne_own ho), Mod.own h.bel hmod hb, h.qb.mod hmod (h.mp.ne_blk h.qb), h.rb.mod hmod (h.mp.ne_blk h.rb)⟩
theorem PlM.keep (h : PlM w W bm bn bo bq br Qc name hv av L H A) (hb : Below W.heap.size W W') : PlM w W' bm bn bo bq br Qc name hv av L H A :=
  ⟨h.mp.below hb h.mp.lt, h.nb.below hb h.nb.lt, h.ob.below hb h.ob.lt, (MT.ofBelow (B := 0) (Ts := []) hb).ownsRow h.hd (by simp), h.am.mt (MT.ofBelow (B := 0) (Ts := []) hb) (by simp) (by simp), h.bel.trans (hb.mono h.bel.size), h.qb.below hb h.qb.lt, h.rb.below hb h.rb.lt⟩
theorem PlM.addHead {s : List UInt8} {v' : Value} (h : PlM w W bm bn bo bq br Qc name hv av L H A) (ho : w.heap.size ≤ bo) (hq : bq ≠ bo) (hr : br ≠ bo) (hg : (W.alloc (.cells #[.string ⟨s.toArray⟩] 9)).grownBy W' hv.ownBlock)
    (hown : W'.ownsRow w.heap.size 9 1 v' (H.length + 1) ((H.map fun s => Value.string ⟨s.toArray⟩) ++ [.string ⟨s.toArray⟩])) : PlM w (W'.setCell ⟨bo, 1, none⟩ v') bm bn bo bq br Qc name v' av L (H ++ [s]) A := by
  have ha := h.keep (balloc (Below.refl W.heap.size W) (.cells #[.string ⟨s.toArray⟩] 9))
  have m1 : MT w.heap.size [9] _ W' := (MT.refl _).grown hg ha.hd (by simp) (Nat.le_refl _)
  have ob1 := ha.ob.mt m1 (by decide)
  have m2 : MT w.heap.size [25] W' (W'.setCell ⟨bo, 1, none⟩ v') := MT.setCell (MT.refl W') ob1 (by simp) ho v'
  refine ⟨(ha.mp.mt m1).mt m2, (ha.nb.mt m1 (by decide)).mt m2 (by decide), by simpa using ob1.set_ 1 v', ?_, (ha.am.mt m1 (by decide) (by decide)).mt m2 (by decide) (by decide), (ha.bel.trans (m1.below ha.bel.size)).trans (m2.below (Nat.le_trans ha.bel.size m1.size)), (ha.qb.mt m1 (by decide)).far (p := ⟨bo, 1, none⟩) hq _, (ha.rb.mt m1 (by decide)).far (p := ⟨bo, 1, none⟩) hr _⟩
  unfold OwnS
  rw [List.length_append, List.map_append]
  exact m2.ownsRow hown (by decide)
theorem PlM.addAtom {a : Atm} {ta : Option Addr} {tc n : Nat} {v' : Value} {rows : List (List Value)} (h : PlM w W bm bn bo bq br Qc name hv av L H A) (ho : w.heap.size ≤ bo) (hq : bq ≠ bo) (hr : br ≠ bo) (hn : A.length = n) (hT : W.ownsRow w.heap.size 47 4 (.slice ta a.ts.length tc) a.ts.length (a.ts.flatMap Trm.cells))
    (h1 : W.ownsRow w.heap.size 33 2 av n rows.flatten) (h2 : All2 (AtmO w.heap.size W) rows A)
    (hg : (W.alloc (.cells #[.string ⟨a.rel.toArray⟩, .slice ta a.ts.length tc] 33)).grownBy W' av.ownBlock)
    (hown : W'.ownsRow w.heap.size 33 2 v' (n + 1) (rows.flatten ++ [.string ⟨a.rel.toArray⟩, .slice ta a.ts.length tc])) :
    PlM w (W'.setCell ⟨bo, 2, none⟩ v') bm bn bo bq br Qc name hv v' L H (A ++ [a]) := by
  have hba := balloc (Below.refl W.heap.size W) (.cells #[.string ⟨a.rel.toArray⟩, .slice ta a.ts.length tc] 33)
  have ha := h.keep hba
  have m0 : MT w.heap.size [33] W _ := MT.ofBelow hba
  have m1 : MT w.heap.size [33] _ W' := (MT.refl _).grown hg (h1.alloc _) (by simp) (Nat.le_refl _)
  have ob1 := ha.ob.mt m1 (by decide)
  have m2 : MT w.heap.size [25] W' (W'.setCell ⟨bo, 2, none⟩ v') := MT.setCell (MT.refl W') ob1 (by simp) ho v'
  refine ⟨(ha.mp.mt m1).mt m2, (ha.nb.mt m1 (by decide)).mt m2 (by decide), by simpa using ob1.set_ 2 v', m2.ownsRow (m1.ownsRow ha.hd (by decide)) (by decide), ⟨rows ++ [[.string ⟨a.rel.toArray⟩, .slice ta a.ts.length tc]], ?_, ?_⟩, (ha.bel.trans (m1.below ha.bel.size)).trans (m2.below (Nat.le_trans ha.bel.size m1.size)), (ha.qb.mt m1 (by decide)).far (p := ⟨bo, 2, none⟩) hq _, (ha.rb.mt m1 (by decide)).far (p := ⟨bo, 2, none⟩) hr _⟩
  · rw [List.length_append, List.flatten_append, hn]
    exact m2.ownsRow (by simpa using hown) (by decide)
  · exact All2.snoc ⟨_, rfl, m2.ownsRow (m1.ownsRow (hT.alloc _) (by decide)) (by decide)⟩ (h2.mono fun b x hh => ((hh.mt m0 (by decide)).mt m1 (by decide)).mt m2 (by decide))
end
end Go.Proofs.YtgilflkgibfjgaaDoor
