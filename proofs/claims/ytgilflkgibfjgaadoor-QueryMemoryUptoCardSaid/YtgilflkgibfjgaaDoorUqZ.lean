/- What lies in memory is read one way alone; a query as an argument, with the sizes of its texts and its bulk. -/
import Derived.Test.YtgilflkgibfjgaaDoorGl
import Derived.Test.YtgilflkgibfjgaaDoorRoqZ
namespace Go.Proofs.YtgilflkgibfjgaaDoor
open Go.ChangeShapes Go.WideShapes Go.ChangeAt Go.RowKit Go.Deep
set_option linter.unusedVariables false

theorem row_one {w : World} {v : Value} {sz : Nat} {xs ys : List (List Value)} (h : RowAt w v sz xs) (k : RowAt w v sz ys) (hx : ∀ x ∈ xs, x.length = sz) (hy : ∀ y ∈ ys, y.length = sz) : xs = ys := by
  obtain ⟨a1, c1, e1, _, _⟩ := h.form
  obtain ⟨a2, c2, e2, _, _⟩ := k.form
  rw [e1] at e2
  have hl : xs.length = ys.length := by simpa using (Value.slice.inj e2).2.1
  refine List.ext_getElem? fun i => ?_
  rcases Nat.lt_or_ge i xs.length with hi | hi
  · obtain ⟨b1, o1, q1, f1, _, _, _, g1⟩ := h.get (List.getElem?_eq_getElem hi)
    obtain ⟨b2, o2, q2, f2, _, _, _, g2⟩ := k.get (i := i) (List.getElem?_eq_getElem (by omega))
    rw [f1] at f2
    simp only [Value.slice.injEq, Option.some.injEq, Addr.mk.injEq, and_true] at f2
    obtain ⟨⟨rfl, rfl⟩, _, _⟩ := f2
    rw [List.getElem?_eq_getElem hi, List.getElem?_eq_getElem (by omega : i < ys.length)]
    congr 1
    have h1 := hx _ (List.getElem_mem hi)
    have h2 := hy _ (List.getElem_mem (by omega : i < ys.length))
    refine List.ext_getElem? fun j => ?_
    rcases Nat.lt_or_ge j sz with hj | hj
    · have e3 := g1 j _ (List.getElem?_eq_getElem (by omega))
      have e4 := g2 j _ (List.getElem?_eq_getElem (by omega))
      rw [e3] at e4
      rw [List.getElem?_eq_getElem (by omega), List.getElem?_eq_getElem (by omega)]
      exact e4
    · rw [List.getElem?_eq_none (by omega), List.getElem?_eq_none (by omega)]
  · rw [List.getElem?_eq_none hi, List.getElem?_eq_none (by omega)]
theorem map_inj_of {α β : Type} {f : α → β} (hf : ∀ a b, f a = f b → a = b) : ∀ {l m : List α}, l.map f = m.map f → l = m
  | [], [], _ => rfl
  | [], _ :: _, h => by simp at h
  | _ :: _, [], h => by simp at h
  | a :: l, b :: m, h => by
    simp only [List.map_cons, List.cons.injEq] at h
    rw [hf _ _ h.1, map_inj_of hf h.2]
theorem strC_inj (a b : List UInt8) (h : strC a = strC b) : a = b := by
  simp only [strC, List.cons.injEq, Value.string.injEq, and_true] at h
  have := congrArg (fun x : ByteArray => x.data.toList) h
  simpa using this
theorem trmC_inj (a b : Trm) (h : a.cells = b.cells) : a = b := by
  obtain ⟨x, k, n, t⟩ := a
  obtain ⟨x', k', n', t'⟩ := b
  simp only [Trm.cells, List.cons.injEq, Value.string.injEq, Value.int.injEq, and_true, true_and] at h
  have h1 := congrArg (fun x : ByteArray => x.data.toList) h.1
  have h4 := congrArg (fun x : ByteArray => x.data.toList) h.2.2.2
  simp only at h1 h4
  rw [h1, h.2.1, h.2.2.1, h4]
theorem strs_one {w : World} {v : Value} {l m : List (List UInt8)} (h : StrsAt w v l) (k : StrsAt w v m) : l = m := by
  have hl : ∀ (l : List (List UInt8)), ∀ x ∈ l.map strC, x.length = 1 := by
    intro l x hx
    simp at hx
    obtain ⟨t, _, rfl⟩ := hx
    rfl
  exact map_inj_of strC_inj (row_one (show RowAt w v 1 (l.map strC) from h) (show RowAt w v 1 (m.map strC) from k) (hl l) (hl m))
theorem atms_one {w : World} : ∀ {rows : List (List Value)} {al bl : List Atm}, All2 (AtmC w) rows al → All2 (AtmC w) rows bl → al = bl
  | [], [], [], _, _ => rfl
  | [], [], _ :: _, _, k => k.elim
  | [], _ :: _, _, h, _ => h.elim
  | _ :: _, [], _, h, _ => h.elim
  | _ :: _, _ :: _, [], _, k => k.elim
  | row :: rows, a :: al, b :: bl, h, k => by
    have ih := atms_one h.2 k.2
    obtain ⟨tv, rfl, h2, _⟩ := h.1
    obtain ⟨tu, e, k2, _⟩ := k.1
    simp only [List.cons.injEq, Value.string.injEq, and_true] at e
    obtain ⟨e1, rfl⟩ := e
    have e2 : a.rel = b.rel := by
      have := congrArg (fun x : ByteArray => x.data.toList) e1
      simpa using this
    have e3 := map_inj_of trmC_inj (row_one h2 k2 (trm_len _) (trm_len _))
    obtain ⟨r1, t1⟩ := a
    obtain ⟨r2, t2⟩ := b
    simp only at e2 e3
    rw [ih, e2, e3]
theorem atoms_one {w : World} {v : Value} {al bl : List Atm} (h : AtomsAt w v al) (k : AtomsAt w v bl) : al = bl := by
  obtain ⟨r1, h1, h2⟩ := h
  obtain ⟨r2, k1, k2⟩ := k
  have e : r1 = r2 := row_one h1 k1 (fun x hx => by obtain ⟨a, _, tv, rfl, _⟩ := all2_mem h2 x hx; rfl) (fun x hx => by obtain ⟨a, _, tv, rfl, _⟩ := all2_mem k2 x hx; rfl)
  subst e
  exact atms_one h2 k2

/-- A query within the reach and of bounded bulk. -/
structure UptoQ (w : World) (nm : ByteArray) (hv av : Value) (hd : List (List UInt8)) (al : List Atm) : Prop where
  head : StrsAt w hv hd
  atoms : AtomsAt w av al
  alen : al.length ≤ 1048576
  tlen : tsum al ≤ 1048576
  hlen : hd.length ≤ 1048576
  name : nm.size ≤ 140737488351232
  heads : ∀ s ∈ hd, s.length ≤ 140737488351232
  each : ∀ a ∈ al, AtmS a
set_option maxRecDepth 100000 in
theorem query_upto {H : Type} {enc : TypeId × Value → H} {w : World} {spare : Nat → Bool} {held : Bool} {base : Nat} {v : Value} {d : DataW H} {p : List MemPlace} (hv : Value.okWide Tryd.prog w .any base 25 v) (h : DataW.Trod enc Tryd.prog w 0 spare held 25 v d p) (hs : Sz Tryd.prog 25 d) (hb : Rows.uptoBulk d ≤ 1048576) :
    ∃ (name : ByteArray) (hv av : Value) (hd : List (List UInt8)) (al : List Atm), v = .agg #[.string name, hv, av] ∧ UptoQ w name hv av hd al := by
  obtain ⟨n1, h1, a1, hd1, al1, rfl, s1, t1, b1, b2, b3, _⟩ := query_arg hv h hs hb
  obtain ⟨n2, h2, a2, hd2, al2, e, bq⟩ := query_big hv h hs
  simp only [Value.agg.injEq, Array.mk.injEq, List.cons.injEq, Value.string.injEq, and_true] at e
  obtain ⟨rfl, rfl, rfl⟩ := e
  obtain rfl := strs_one s1 bq.head
  obtain rfl := atoms_one t1 bq.atoms
  exact ⟨n1, h1, a1, hd1, al1, rfl, s1, t1, b1, b2, b3, bq.name, bq.heads, bq.each⟩
end Go.Proofs.YtgilflkgibfjgaaDoor
