/- One element of a row of the call's own, stored into; a row just made: no program in sight. copy into a row that was just made, whatever the elements' cells; make: no program in sight. osierref02.Copy, Same and osierref09.CopyAtom, walked. What the document's Match tells, plainly, and that query.Match tells the same. -/
import Derived.Test.YtgilflkgibfjgaaDoorGb
import Derived.Test.YtgilflkgibfjgaaDoorLa
import Derived.Test.YtgilflkgibfjgaaDoorGm
import Derived.Test.YtgilflkgibfjgaaDoorGg
import Derived.Laws.CopyRow
import Derived.Laws.MakeOwn
import Derived.Laws.CopyOwn
import Derived.OwnWalk
namespace Go.Proofs.YtgilflkgibfjgaaDoor
open Go.RowKit
set_option linter.unusedVariables false
variable {P : Program}

theorem rows_set_flatten {rows : List (List Value)} {sz k : Nat} {cells rest : List Value} (hl : ∀ x ∈ rows, x.length = sz) (hk : k < rows.length) (hc : cells.length = sz) :
    (rows.flatten ++ rest).take (k * sz) ++ cells ++ (rows.flatten ++ rest).drop (k * sz + sz) = (rows.set k cells).flatten ++ rest := by
  have e : rows = rows.take k ++ rows[k] :: rows.drop (k + 1) := by rw [List.getElem_cons_drop, List.take_append_drop]
  have h1 : (rows.take k).flatten.length = k * sz := by
    rw [flatten_len (fun x hx => hl x (List.mem_of_mem_take hx)), List.length_take]
    congr 1
    omega
  have h2 : rows[k].length = sz := hl _ (List.getElem_mem hk)
  have e2 : rows.flatten = (rows.take k).flatten ++ (rows[k] ++ (rows.drop (k + 1)).flatten) := by
    have e4 : (rows.take k ++ rows[k] :: rows.drop (k + 1)).flatten = (rows.take k).flatten ++ (rows[k] ++ (rows.drop (k + 1)).flatten) := by rw [List.flatten_append, List.flatten_cons]
    exact (congrArg List.flatten e).trans e4
  have e3 : (rows.set k cells).flatten = (rows.take k).flatten ++ (cells ++ (rows.drop (k + 1)).flatten) := by
    rw [List.set_eq_take_append_cons_drop, if_pos hk]
    simp
  rw [e2, e3]
  generalize (rows.take k).flatten = A at *
  generalize rows[k] = B at *
  generalize (rows.drop (k + 1)).flatten = C at *
  rw [← h1, ← h2]
  have d1 : ((A ++ (B ++ C)) ++ rest).take A.length = A := by
    rw [List.append_assoc, List.take_append_of_le_length (Nat.le_refl _), List.take_length]
  have d2 : ((A ++ (B ++ C)) ++ rest).drop (A.length + B.length) = C ++ rest := by
    rw [← List.append_assoc A B C, List.append_assoc (A ++ B) C rest, List.drop_append_of_le_length (by simp)]
    rw [List.drop_of_length_le (by simp)]
    rfl
  rw [d1, d2]
  simp

/-- A whole element stored into a row of the call's own. -/
theorem run_store_elem {w : World} {g k : Nat} {ty e : TypeId} {sz base n cap : Nat} {rows : List (List Value)} {cells : Array Value} (hown : w.ownsRow base e sz (.slice (some ⟨g, 0, none⟩) n cap) n rows.flatten) (hl : ∀ x ∈ rows, x.length = sz)
    (hn : rows.length = n) (hk : k < n) (hc : cells.size = sz) (hi : (P.info? ty).map (·.size) = some sz) (h1 : cells.all (·.oneCell') = true) :
    ∃ w', (storeVar ty ⟨g, k * sz, none⟩ (.agg cells)).run P w = .ok () w' ∧ w'.ownsRow base e sz (.slice (some ⟨g, 0, none⟩) n cap) n (rows.set k cells.toList).flatten ∧ Mod (fun j => j = g) w w' ∧ w'.heap.size = w.heap.size := by
  subst hc
  rcases hown.2 with ⟨h0, _⟩ | ⟨g', cap', cur, hv, hb, hg, hnc, hcm, hsz, htk⟩
  · simp at h0
  simp only [Value.slice.injEq, Option.some.injEq, Addr.mk.injEq, and_true, true_and] at hv
  obtain ⟨rfl, rfl⟩ := hv
  have hfl := flatten_len hl
  have hcl : cells.toList.length = cells.size := by simp
  have hle : (k + 1) * cells.size ≤ n * cells.size := Nat.mul_le_mul_right _ hk
  have hle2 : n * cells.size ≤ cap * cells.size := Nat.mul_le_mul_right _ hnc
  rw [Nat.succ_mul] at hle
  have hst := run_storeCells_at P g (k * cells.size) e cells.toList 0 cur w hg (by rw [hsz, hcl]; omega) (fun v hv => (Array.all_eq_true_iff_forall_mem.1 h1) v (by simpa using hv))
  have hcur : cur.toList = rows.flatten ++ cur.toList.drop (n * cells.size) := by
    conv => lhs; rw [← List.take_append_drop (n * cells.size) cur.toList]
    rw [htk]
  have hnew : cur.toList.take (k * cells.size) ++ cells.toList ++ cur.toList.drop (k * cells.size + cells.size) = (rows.set k cells.toList).flatten ++ cur.toList.drop (n * cells.size) := by
    have := rows_set_flatten (rest := cur.toList.drop (n * cells.size)) hl (by omega : k < rows.length) hcl
    rw [← hcur] at this
    exact this
  simp only [Nat.add_zero, hcl] at hst
  rw [hnew] at hst
  have hl2 : ∀ x ∈ rows.set k cells.toList, x.length = cells.size := fun x hx => by
    rcases List.mem_or_eq_of_mem_set hx with h | h
    · exact hl x h
    · rw [h, hcl]
  have hfl2 : (rows.set k cells.toList).flatten.length = n * cells.size := by rw [flatten_len hl2, List.length_set, hn]
  refine ⟨w.setRow g ((rows.set k cells.toList).flatten ++ cur.toList.drop (n * cells.size)).toArray, ?_, ⟨hfl2, .inr ⟨g, cap, _, rfl, hb, setRow_heap w g _ _ e _ hg, hnc, hcm, ?_, ?_⟩⟩, mod_setRow w g _, by simp [World.setRow]⟩
  · cases hq : P.info? ty with
    | none => simp [hq] at hi
    | some i =>
      have hs : cells.size = i.size := by simp [hq] at hi; omega
      simp [storeVar, sizeOf, typeInfo, hq, Value.cells, hs]
      simp only [hs] at hst
      exact hst
  · have hdl : (cur.toList.drop (n * cells.size)).length = cap * cells.size - n * cells.size := by rw [List.length_drop, Array.length_toList, hsz]
    rw [List.size_toArray, List.length_append, hfl2, hdl]
    omega
  · show List.take (n * cells.size) ((rows.set k cells.toList).flatten ++ cur.toList.drop (n * cells.size)) = _
    rw [List.take_append_of_le_length (by rw [hfl2]; exact Nat.le_refl _)]
    exact List.take_of_length_le (by rw [hfl2]; exact Nat.le_refl _)

theorem wp_store_elem {op : Oper} {a : Act} {w : World} {K : Act → World → Prop} {Q : Exit → Act → World → Prop} (ty : TypeId) (x y : Operand) (ho : op.op = .store ty x y)
    (g k : Nat) (e : TypeId) (sz base n cap : Nat) (rows : List (List Value)) (cells : Array Value) (hx : a.eval x = .pointer (some ⟨g, k * sz, none⟩)) (hy : a.eval y = .agg cells)
    (hown : w.ownsRow base e sz (.slice (some ⟨g, 0, none⟩) n cap) n rows.flatten) (hl : ∀ x ∈ rows, x.length = sz) (hn : rows.length = n) (hk : k < n) (hc : cells.size = sz) (hi : (P.info? ty).map (·.size) = some sz) (h1 : cells.all (·.oneCell') = true)
    (h : ∀ w', w'.ownsRow base e sz (.slice (some ⟨g, 0, none⟩) n cap) n (rows.set k cells.toList).flatten → Mod (fun j => j = g) w w' → w'.heap.size = w.heap.size → K (a.put op.dst undef) w') : op.wp P a w K Q := by
  obtain ⟨w', hr, h2, h3, h4⟩ := run_store_elem (P := P) (ty := ty) hown hl hn hk hc hi h1
  unfold Oper.wp execOp
  simp only [ho, hx, hy, Instr.storeAt, Instr.sureAddr, Sem.run_bind, Sem.run_pure, Result.andThen_ok, hr]
  exact h w' h2 h3 h4
theorem wpList_store_elem {ops : Array Oper} {rest : List Oper} {op : Oper} {a : Act} {w : World} {Q : Exit → Act → World → Prop} (hgd : op.guard = none) (ty : TypeId) (x y : Operand) (ho : op.op = .store ty x y)
    (g k : Nat) (e : TypeId) (sz base n cap : Nat) (rows : List (List Value)) (cells : Array Value) (hx : a.eval x = .pointer (some ⟨g, k * sz, none⟩)) (hy : a.eval y = .agg cells)
    (hown : w.ownsRow base e sz (.slice (some ⟨g, 0, none⟩) n cap) n rows.flatten) (hl : ∀ x ∈ rows, x.length = sz) (hn : rows.length = n) (hk : k < n) (hc : cells.size = sz) (hi : (P.info? ty).map (·.size) = some sz) (h1 : cells.all (·.oneCell') = true)
    (h : ∀ w', w'.ownsRow base e sz (.slice (some ⟨g, 0, none⟩) n cap) n (rows.set k cells.toList).flatten → Mod (fun j => j = g) w w' → w'.heap.size = w.heap.size → wpList P ops Q rest (a.put op.dst undef) w') : wpList P ops Q (op :: rest) a w :=
  wpList_plain hgd fun _ hK => wp_store_elem ty x y ho g k e sz base n cap rows cells hx hy hown hl hn hk hc hi h1 fun w' h2 h3 h4 => hK _ _ (h w' h2 h3 h4)
theorem step_store_elem {ops : Array Oper} {op : Oper} {a : Act} {w : World} {K : Act → World → Prop} {Q : Exit → Act → World → Prop} {E : Prop} (hgd : op.guard = none) (ty : TypeId) (x y : Operand) (ho : op.op = .store ty x y)
    (g k : Nat) (e : TypeId) (sz base n cap : Nat) (rows : List (List Value)) (cells : Array Value) (hx : a.eval x = .pointer (some ⟨g, k * sz, none⟩)) (hy : a.eval y = .agg cells)
    (hown : w.ownsRow base e sz (.slice (some ⟨g, 0, none⟩) n cap) n rows.flatten) (hl : ∀ x ∈ rows, x.length = sz) (hn : rows.length = n) (hk : k < n) (hc : cells.size = sz) (hi : (P.info? ty).map (·.size) = some sz) (h1 : cells.all (·.oneCell') = true)
    (h : ∀ w', w'.ownsRow base e sz (.slice (some ⟨g, 0, none⟩) n cap) n (rows.set k cells.toList).flatten → Mod (fun j => j = g) w w' → w'.heap.size = w.heap.size → K (a.put op.dst undef) w') :
    if Region.wanted op (yielded ops a.tmps) = true then Oper.wp P op a w K Q else E := by
  have hw : Region.wanted op (yielded ops a.tmps) = true := by simp [Region.wanted, hgd]
  rw [if_pos hw]
  exact wp_store_elem ty x y ho g k e sz base n cap rows cells hx hy hown hl hn hk hc hi h1 h

theorem own_cell {w : World} {g k j : Nat} {e : TypeId} {sz base n cap : Nat} {xs : List Value} (hown : w.ownsRow base e sz (.slice (some ⟨g, 0, none⟩) n cap) n xs) (hk : k < n) (hj : j < sz) :
    (∃ u, w.cell? ⟨g, k * sz + j, none⟩ = some u) ∧ w.frozen? ⟨g, k * sz + j, none⟩ = false ∧ g < w.heap.size := by
  rcases hown.2 with ⟨h0, _⟩ | ⟨g', cap', cur, hv, hb, hg, hnc, hcm, hsz, htk⟩
  · simp at h0
  simp only [Value.slice.injEq, Option.some.injEq, Addr.mk.injEq, and_true, true_and] at hv
  obtain ⟨rfl, rfl⟩ := hv
  have hlt : k * sz + j < cur.size := by
    have h1 : (k + 1) * sz ≤ cap * sz := Nat.mul_le_mul_right _ (by omega)
    rw [Nat.succ_mul] at h1
    omega
  refine ⟨⟨cur[k * sz + j], by simp [World.cell?, hg, hlt]⟩, by simp [World.frozen?, hg], (Array.getElem?_eq_some_iff.1 hg).1⟩
/-- The cells one by one. -/
theorem own_setCells {w : World} {g k : Nat} {e : TypeId} {base n cap : Nat} {rows : List (List Value)} {cells : List Value} (hown : w.ownsRow base e cells.length (.slice (some ⟨g, 0, none⟩) n cap) n rows.flatten) (hl : ∀ x ∈ rows, x.length = cells.length)
    (hn : rows.length = n) (hk : k < n) (h1 : ∀ v ∈ cells, v.oneCell' = true) :
    (w.setCells g (k * cells.length) cells).ownsRow base e cells.length (.slice (some ⟨g, 0, none⟩) n cap) n (rows.set k cells).flatten ∧ Mod (fun j => j = g) w (w.setCells g (k * cells.length) cells) ∧ (w.setCells g (k * cells.length) cells).heap.size = w.heap.size := by
  have hr2 := run_storeCells_cells (P := default) g (k * cells.length) cells 0 w (fun j hj => by
      obtain ⟨⟨u, hu⟩, _⟩ := own_cell hown hk hj
      simp only [Nat.add_zero]
      rw [hu]
      rfl) (fun j hj => by simpa using (own_cell hown hk hj).2.1) h1
  rcases hown.2 with ⟨h0, _⟩ | ⟨g', cap', cur, hv, hb, hg, hnc, hcm, hsz, htk⟩
  · simp at h0
  simp only [Value.slice.injEq, Option.some.injEq, Addr.mk.injEq, and_true, true_and] at hv
  obtain ⟨rfl, rfl⟩ := hv
  have hle : (k + 1) * cells.length ≤ n * cells.length := Nat.mul_le_mul_right _ hk
  have hle2 : n * cells.length ≤ cap * cells.length := Nat.mul_le_mul_right _ hnc
  rw [Nat.succ_mul] at hle
  have hst := run_storeCells_at default g (k * cells.length) e cells 0 cur w hg (by rw [hsz]; omega) h1
  have hcur : cur.toList = rows.flatten ++ cur.toList.drop (n * cells.length) := by
    conv => lhs; rw [← List.take_append_drop (n * cells.length) cur.toList]
    rw [htk]
  have hnew : cur.toList.take (k * cells.length) ++ cells ++ cur.toList.drop (k * cells.length + cells.length) = (rows.set k cells).flatten ++ cur.toList.drop (n * cells.length) := by
    have := rows_set_flatten (rest := cur.toList.drop (n * cells.length)) hl (by omega : k < rows.length) (rfl : cells.length = cells.length)
    rw [← hcur] at this
    exact this
  simp only [Nat.add_zero] at hst hr2
  rw [hnew, hr2] at hst
  simp only [Result.ok.injEq, true_and] at hst
  rw [hst]
  have hl2 : ∀ x ∈ rows.set k cells, x.length = cells.length := fun x hx => by
    rcases List.mem_or_eq_of_mem_set hx with h | h
    · exact hl x h
    · rw [h]
  have hfl2 : (rows.set k cells).flatten.length = n * cells.length := by rw [flatten_len hl2, List.length_set, hn]
  refine ⟨⟨hfl2, .inr ⟨g, cap, _, rfl, hb, setRow_heap w g _ _ e _ hg, hnc, hcm, ?_, ?_⟩⟩, mod_setRow w g _, by simp [World.setRow]⟩
  · have hdl : (cur.toList.drop (n * cells.length)).length = cap * cells.length - n * cells.length := by rw [List.length_drop, Array.length_toList, hsz]
    rw [List.size_toArray, List.length_append, hfl2, hdl]
    omega
  · show List.take (n * cells.length) ((rows.set k cells).flatten ++ cur.toList.drop (n * cells.length)) = _
    rw [List.take_append_of_le_length (by rw [hfl2]; exact Nat.le_refl _)]
    exact List.take_of_length_le (by rw [hfl2]; exact Nat.le_refl _)

/-- A row just made holds zeros. -/
theorem made_rows (z : List Value) (n : Nat) (hz : 0 < z.length) : (madeCells z.toArray (n * z.length)).toList = (List.replicate n z).flatten := by
  have hl : ∀ x ∈ List.replicate n z, x.length = z.length := fun x hx => by rw [(List.mem_replicate.1 hx).2]
  have hfl := flatten_len hl
  rw [List.length_replicate] at hfl
  apply List.ext_getElem?
  intro j
  rcases Nat.lt_or_ge j (n * z.length) with h | h
  · have hm : j % z.length < z.length := Nat.mod_lt _ hz
    have hd : j / z.length < n := Nat.div_lt_of_lt_mul (by rw [Nat.mul_comm]; exact h)
    have h1 := flatten_at hl (i := j / z.length) (j := j % z.length) (x := z) (u := z[j % z.length]) (by simp [hd]) (List.getElem?_eq_getElem hm)
    rw [Nat.mul_comm, Nat.div_add_mod] at h1
    rw [h1]
    unfold madeCells
    simp [h, hm]
  · have h2 : (madeCells z.toArray (n * z.length)).toList.length ≤ j := by rw [Array.length_toList, size_madeCells]; exact h
    have h3 : (List.replicate n z).flatten.length ≤ j := by rw [hfl]; exact h
    rw [List.getElem?_eq_none h2, List.getElem?_eq_none h3]
end Go.Proofs.YtgilflkgibfjgaaDoor
namespace Go.Proofs.YtgilflkgibfjgaaDoor
open Go.RowKit
set_option linter.unusedVariables false
variable {P : Program}

theorem run_copy_wide (w : World) (dT sT ty elem : TypeId) (sz g dLen dCap : Nat) (a : Addr) (sLen sCap : Nat) (cur : Array Value) (t : TypeId) (cs : List Value)
    (hu : P.underlying dT = some (.slice elem)) (hs : (P.info? elem).map (·.size) = some sz)
    (hg : w.heap[g]? = some (.cells cur t (0, 0))) (hn : cs.length = Nat.min sLen dLen * sz)
    (hsrc : ∀ j v, cs[j]? = some v → w.cell? (a.add j) = some v) (hfit : cs.length ≤ cur.size) (h1 : ∀ v ∈ cs, v.oneCell' = true) :
    (Builtin.copy_ #[dT, sT] ty #[.slice (some ⟨g, 0, none⟩) dLen dCap, .slice (some a) sLen sCap]).run P w =
      .ok (goInt (Nat.min sLen dLen)) (w.setRow g (cs ++ cur.toList.drop cs.length).toArray) := by
  have hl := run_loadCells_list (P := P) w a cs hsrc
  have hst := run_storeCells_at P g 0 t cs 0 cur w hg (by simpa using hfit) h1
  cases hq : P.info? elem with
  | none => simp [hq] at hs
  | some i =>
    have hi : i.size = sz := by simpa [hq] using hs
    rw [hn] at hl
    simp [Builtin.copy_, run_underlying hu, Builtin.lenOf, Builtin.firstCells, sizeOf, typeInfo, hq, hi, hl, hst]
theorem run_copy_none_wide (w : World) (dT sT ty elem : TypeId) (sz : Nat) (d a : Option Addr) (dLen dCap sLen sCap : Nat) (hu : P.underlying dT = some (.slice elem)) (hs : (P.info? elem).map (·.size) = some sz) (hn : Nat.min sLen dLen = 0) :
    (Builtin.copy_ #[dT, sT] ty #[.slice d dLen dCap, .slice a sLen sCap]).run P w = .ok (goInt 0) w := by
  cases hq : P.info? elem with
  | none => simp [hq] at hs
  | some i =>
    have hl : ∀ (x : Addr), (loadCells x 0).run P w = .ok #[] w := fun x => by simpa using run_loadCells_list (P := P) w x [] (by simp)
    cases d <;> cases a <;> simp [Builtin.copy_, run_underlying hu, Builtin.lenOf, Builtin.firstCells, sizeOf, typeInfo, hq, hn, storeCells, hl]

/-- copy of a row that can be read into a row of the call's own, as long. -/
theorem wpList_copy_full {w : World} {ops : Array Oper} {rest : List Oper} {o : Oper} {a : Act} {Q : Exit → Act → World → Prop} (hgd : o.guard = none) (d s : Operand) (dT sT : TypeId)
    (ho : o.op = .call { callee := .builtin .copy, args := #[d, s], argTypes := #[dT, sT] }) (elem : TypeId) (sz : Nat) (hu : P.underlying dT = some (.slice elem)) (hsz : (P.info? elem).map (·.size) = some sz)
    (g n : Nat) (sv : Value) (hd : a.eval d = .slice (some ⟨g, 0, none⟩) n n) (hs : a.eval s = sv)
    (cur : List Value) (base : Nat) (hown : w.ownsRow base elem sz (.slice (some ⟨g, 0, none⟩) n n) n cur) (xs : List (List Value)) (hx : RowAt w sv sz xs) (hxn : xs.length = n) (hl : ∀ x ∈ xs, x.length = sz) (h1 : ∀ x ∈ xs, ∀ u ∈ x, u.oneCell' = true) (hgb : base ≤ g)
    (h : ∀ w', w'.ownsRow base elem sz (.slice (some ⟨g, 0, none⟩) n n) n xs.flatten → Mod (fun k => k = g) w w' → w'.heap.size = w.heap.size → wpList P ops Q rest (a.put o.dst (goInt n)) w') :
    wpList P ops Q (o :: rest) a w := by
  refine wpList_plain hgd fun K hK => ?_
  obtain ⟨ad, cap, rfl, hc1, hc2⟩ := hx.form
  rcases hown.2 with ⟨h0, _⟩ | ⟨g', cap', cur', hv, hb, hg, hnc, hcm, hsz', htk⟩
  · simp at h0
  simp only [Value.slice.injEq, Option.some.injEq, Addr.mk.injEq, and_true, true_and] at hv
  obtain ⟨rfl, rfl⟩ := hv
  have hfl := flatten_len hl
  rw [hxn] at hfl hs
  by_cases h0 : n = 0
  · subst h0
    have hx0 : xs = [] := List.eq_nil_of_length_eq_zero hxn
    subst hx0
    have hrun := run_copy_none_wide (P := P) w dT sT o.type elem sz (some ⟨g, 0, none⟩) ad 0 0 0 cap hu hsz rfl
    unfold Oper.wp
    simp [execOp, ho, resolve, invoke, builtin, hd, hs, hrun, Result.andThen]
    have hcur : cur = [] := List.eq_nil_of_length_eq_zero (by have := hown.1; simpa using this)
    subst hcur
    exact hK _ _ (h w hown (Mod.refl _ w) rfl)
  · obtain ⟨x0, hx0⟩ : ∃ x0, xs[0]? = some x0 := ⟨xs[0]'(by omega), List.getElem?_eq_getElem (by omega)⟩
    obtain ⟨b, off, cap2, hv2, _, _, hbl, _⟩ := hx.get hx0
    simp only [Value.slice.injEq, true_and] at hv2
    obtain ⟨rfl, rfl⟩ := hv2
    have hsrc : ∀ j v, xs.flatten[j]? = some v → w.cell? ((⟨b, off, none⟩ : Addr).add j) = some v := by
      intro j v hj
      have hadd : (⟨b, off, none⟩ : Addr).add j = ⟨b, off + j, none⟩ := by unfold Addr.add; split <;> simp_all
      rw [hadd]
      have hjl := (List.getElem?_eq_some_iff.1 hj).1
      rw [hfl] at hjl
      have hszp : 0 < sz := by
        rcases Nat.eq_zero_or_pos sz with e | e
        · subst e; simp at hjl
        · exact e
      have hq : j / sz < n := Nat.div_lt_of_lt_mul (by rw [Nat.mul_comm]; exact hjl)
      have hr : j % sz < sz := Nat.mod_lt _ hszp
      obtain ⟨x, hxj⟩ : ∃ x, xs[j / sz]? = some x := ⟨xs[j / sz]'(by omega), List.getElem?_eq_getElem (by omega)⟩
      have hxl := hl x (List.mem_of_getElem? hxj)
      obtain ⟨u, hu'⟩ : ∃ u, x[j % sz]? = some u := ⟨x[j % sz]'(by omega), List.getElem?_eq_getElem (by omega)⟩
      have hfa := flatten_at hl hxj hu'
      have hjj : j / sz * sz + j % sz = j := by rw [Nat.mul_comm]; exact Nat.div_add_mod j sz
      rw [hjj, hj] at hfa
      obtain ⟨b', off', cap3, hv3, _, _, _, hcell⟩ := hx.get hxj
      simp only [Value.slice.injEq, Option.some.injEq, Addr.mk.injEq, and_true, true_and] at hv3
      obtain ⟨⟨rfl, rfl⟩, rfl⟩ := hv3
      have := hcell (j % sz) u hu'
      rw [Nat.add_assoc, hjj] at this
      rw [this, hfa]
    have hmin : Nat.min n n = n := Nat.min_self n
    have hfit : xs.flatten.length ≤ cur'.size := by rw [hfl, hsz']; exact Nat.le_refl _
    have hrun := run_copy_wide (P := P) w dT sT o.type elem sz g n n ⟨b, off, none⟩ n cap cur' elem xs.flatten hu hsz hg (by rw [hmin, hfl]) hsrc hfit (by
      intro v hv
      obtain ⟨x, hxm, hvx⟩ := List.mem_flatten.1 hv
      exact h1 x hxm v hvx)
    rw [hmin] at hrun
    unfold Oper.wp
    simp [execOp, ho, resolve, invoke, builtin, hd, hs, hrun, Result.andThen]
    refine hK _ _ (h _ ⟨hfl, .inr ⟨g, n, _, rfl, hgb, setRow_heap w g _ _ elem _ hg, Nat.le_refl _, hcm, ?_, ?_⟩⟩ (mod_setRow w g _) (by simp [World.setRow]))
    · have hfl2 : (List.map List.length xs).sum = n * sz := by rw [← List.length_flatten]; exact hfl
      simp [hfl2, hsz']
    · have hfl3 : n * sz ≤ xs.flatten.length := by rw [hfl]; exact Nat.le_refl _
      have hfl4 : xs.flatten.length ≤ n * sz := by rw [hfl]; exact Nat.le_refl _
      simp only [List.take_append_of_le_length hfl3]
      exact List.take_of_length_le hfl4
end Go.Proofs.YtgilflkgibfjgaaDoor
namespace Go.Proofs.YtgilflkgibfjgaaDoor
open Go.RowKit
set_option linter.unusedVariables false

theorem vl_len (vs : List Vl) : ∀ x ∈ vs.map Vl.cells, x.length = 3 := by
  intro x hx
  simp at hx
  obtain ⟨t, _, rfl⟩ := hx
  rfl
theorem vl_one (vs : List Vl) : ∀ x ∈ vs.map Vl.cells, ∀ u ∈ x, u.oneCell' = true := by
  intro x hx u hu
  simp at hx
  obtain ⟨t, _, rfl⟩ := hx
  simp only [Vl.cells, List.mem_cons, List.not_mem_nil, or_false] at hu
  rcases hu with rfl | rfl | rfl <;> rfl

set_option maxHeartbeats 2000000 in
set_option maxRecDepth 100000 in
theorem copyRow_any (w : World) (rv : Value) (vs : List Vl) (h : RowAt w rv 3 (vs.map Vl.cells)) (hv : vs.length ≤ 4398046511104) :
    Calls Tryd.prog 20 #[rv] w fun e w' => ∃ v, e = .returned v ∧ w'.ownsRow w.heap.size 45 3 v vs.length (vs.map Vl.cells).flatten ∧ Below w.heap.size w w' := by
  obtain ⟨i0, hi0, hz0, hz1, hz2⟩ := info_parts Tryd.infoVal
  obtain ⟨ad, cap, rfl, hnc, hcm⟩ := h.form
  simp only [List.length_map] at hnc ⊢
  unfold maxLen at hcm
  have HR := Lib.hid h
  have HL := Lib.hid (vl_len vs)
  have HO := Lib.hid (vl_one vs)
  have hlen : (vs.map Vl.cells).length = vs.length := by simp
  generalize vs.map Vl.cells = xs at *
  generalize hN : vs.length = n at *
  rw [hlen] at HR
  have HX := Lib.hid hlen
  clear h hN hlen
  go_enter Tryd.func20, Tryd.ntmps20
  go_wp2_with (at_make; refine wpList_make_full _ rfl _ _ 35 rfl w.heap.size 45 i0 (.agg #[.int .i64 0, .int .i64 0, .string ⟨#[]⟩]) 3 Tryd.underlying35 hi0 hz0 hz1 _ _ _ _ n rfl rfl rfl rfl ?b2 ?b3 ?b4 ?_)
  case b2 => rw [hz2]; omega
  case b3 => unfold maxLen; omega
  case b4 => omega
  intro w2 hown2 hgrow2
  have hbw2 : Below w.heap.size w w2 := (Below.refl _ w).grown hgrow2 (Nat.le_refl _) (fun q hq => by cases hq)
  have HOW2 := Lib.hid hown2
  have HBW2 := Lib.hid hbw2
  have HR2 := Lib.hid (HR.out.keep hbw2)
  clear hbw2 hown2 hgrow2
  go_wp2_with (refine wpList_copy_full rfl _ _ _ _ rfl 45 3 Tryd.underlying35 (by kernel_rfl) w.heap.size n _ rfl rfl _ w.heap.size HOW2.out xs HR2.out HX.out HL.out HO.out (Nat.le_refl _) ?_)
  intro w3 hown3 hmod3 hsz3
  have HOW3 := Lib.hid hown3
  have HBW3 := Lib.hid (Mod.own HBW2.out hmod3 (Nat.le_refl _))
  clear hown3 hmod3 hsz3
  go_wp2_with fail
  go_ret
  exact ⟨_, rfl, HOW3.out, HBW3.out⟩

set_option maxHeartbeats 2000000 in
set_option maxRecDepth 100000 in
theorem copyAtom_any (w : World) (rel : ByteArray) (tv : Value) (ts : List Trm) (h : RowAt w tv 4 (ts.map Trm.cells)) (hn : ts.length ≤ 2932031007317) :
    Calls Tryd.prog 19 #[.agg #[.string rel, tv]] w fun e w' => ∃ v, e = .returned (.agg #[.string rel, v]) ∧ w'.ownsRow w.heap.size 47 4 v ts.length (ts.map Trm.cells).flatten ∧ Below w.heap.size w w' := by
  obtain ⟨i0, hi0, hz0, hz1, hz2⟩ := info_parts Tryd.infoTrm
  obtain ⟨ad, cap, rfl, hnc, hcm⟩ := h.form
  simp only [List.length_map] at hnc ⊢
  unfold maxLen at hcm
  have HL := Lib.hid (trm_len ts)
  have HO := Lib.hid (trm_one ts)
  have hlen : (ts.map Trm.cells).length = ts.length := by simp
  generalize ts.map Trm.cells = xs at *
  generalize hN : ts.length = n at *
  rw [hlen] at h
  have HR := Lib.hid h
  have HX := Lib.hid hlen
  have HBX := Lib.hid ((Blk.new w 33 #[.string rel, .slice ad n cap]).alloc (.cells #[.string ⟨#[]⟩, .slice none 0 0] 33))
  have HBY := Lib.hid (blkNew1 w (.cells #[.string rel, .slice ad n cap] 33) 33 #[.string ⟨#[]⟩, .slice none 0 0])
  have HB0 := Lib.hid (balloc (balloc (Below.refl w.heap.size w) (.cells #[.string rel, .slice ad n cap] 33)) (.cells #[.string ⟨#[]⟩, .slice none 0 0] 33))
  clear h hN hlen
  go_enter Tryd.func19, Tryd.ntmps19
  go_wp2_with (at_make; refine wpList_make_full _ rfl _ _ 31 rfl w.heap.size 47 i0 (.agg #[.string ⟨#[]⟩, .int .i64 0, .int .i64 0, .string ⟨#[]⟩]) 4 Tryd.underlying31 hi0 hz0 hz1 _ _ _ _ n rfl rfl rfl rfl ?b2 ?b3 ?b4 ?_)
  case b2 => rw [hz2]; omega
  case b3 => unfold maxLen; omega
  case b4 => simp <;> omega
  intro w2 hown2 hgrow2
  have HOW2 := Lib.hid hown2
  have hbw2 : Below w.heap.size w w2 := HB0.out.grown hgrow2 (by simp <;> omega) (fun q hq => by cases hq)
  have HBW2 := Lib.hid hbw2
  have HR2 := Lib.hid (HR.out.keep hbw2)
  have bx := HBX.out.grown hgrow2 (by simp)
  have hby := HBY.out.grown hgrow2 (by simp)
  have x0 := bx.cell 0
  have x1 := bx.cell 1
  simp only [List.getElem?_toArray, List.getElem?_cons_zero, List.getElem?_cons_succ] at x0 x1
  have hxl := bx.lt
  have HBX2 := Lib.hid bx
  have HBY2 := Lib.hid hby
  clear hbw2 hown2 hgrow2 bx hby
  go_wp2_with (refine wpList_copy_full rfl _ _ _ _ rfl 47 4 Tryd.underlying31 (by kernel_rfl) (w.heap.size + 1 + 1) n _ rfl rfl _ w.heap.size HOW2.out xs HR2.out HX.out HL.out HO.out (by omega) ?_)
  intro w3 hown3 hmod3 hsz3
  have HOW3 := Lib.hid hown3
  have hbw3 := Mod.own HBW2.out hmod3 (by omega)
  have bx := HBX2.out.mod hmod3 (by omega)
  have hby := HBY2.out.mod hmod3 (by omega)
  have x0 := bx.cell 0
  simp only [List.getElem?_toArray, List.getElem?_cons_zero] at x0
  have hxl := bx.lt
  have HBW3 := Lib.hid hbw3
  have HBY3 := Lib.hid hby
  clear hown3 hmod3 hsz3 bx hby hbw3
  go_wp2_with (refine wpList_store_blk rfl 33 _ _ rfl (w.heap.size + 1) 33 _ _ rfl rfl HBY3.out (by kernel_rfl) rfl (by simp [Value.oneCell']) ?_)
  intro w4 hb4 hm4 hz4
  have r0 := hb4.cell 0
  have r1 := hb4.cell 1
  have HB4 := Lib.hid (Mod.own HBW3.out hm4 (by omega))
  have HO4 := Lib.hid (hm4.ownsRow HOW3.out (by intro q hq; simp [Value.ownBlock] at hq; omega))
  simp only [List.getElem?_toArray, List.getElem?_cons_zero, List.getElem?_cons_succ] at r0 r1
  clear hb4 hm4 hz4
  go_wp2_with fail
  exact bodyPost_ret (v := .agg #[.string rel, .slice (some ⟨w.heap.size + 1 + 1, 0, none⟩) n n]) (by simp [results, Tryd.results19, go_sem, *]) rfl ⟨_, rfl, HO4.out, HB4.out⟩

/-- Are the rows equal? -/
def sameV (a b : List Vl) : Bool := decide (a = b)
set_option maxHeartbeats 4000000 in
set_option maxRecDepth 100000 in
theorem sameRow_any (w : World) (va vb : Value) (a b : List Vl) (ha : RowAt w va 3 (a.map Vl.cells)) (hb : RowAt w vb 3 (b.map Vl.cells)) :
    Calls Tryd.prog 21 #[va, vb] w fun e w' => e = .returned (.bool (sameV a b)) ∧ Below w.heap.size w w' := by
  have hneq : ∀ (k n k' n' : Int) (t t' : List UInt8) (w : World), (binOp .neq 45 (.agg #[.int .i64 k, .int .i64 n, .string ⟨t.toArray⟩]) (.agg #[.int .i64 k', .int .i64 n', .string ⟨t'.toArray⟩])).run Tryd.prog w = .ok (.bool (!vlB k n t k' n' t')) w := fun k n k' n' t t' w => neq_value ⟨k, n, t⟩ ⟨k', n', t'⟩ w
  obtain ⟨aa, ac, rfl, hac, ham⟩ := ha.form
  obtain ⟨ba, bc, rfl, hbc, hbm⟩ := hb.form
  have hla := ha.len
  have hlb := hb.len
  unfold maxLen at ham hbm
  have HA := Lib.hid ha
  have HB := Lib.hid hb
  simp only [List.length_map] at hac hbc hla hlb ⊢
  generalize hN : a.length = n at *
  generalize hM : b.length = m at *
  have HN := Lib.hid hN
  have HM := Lib.hid hM
  clear ha hb hN hM
  by_cases hnm : n = m
  · subst hnm
    go_enter Tryd.func21, Tryd.ntmps21
    go_wp2_with fail
    go_loopw [5] (fun i wr => ∃ k : Nat, k ≤ n ∧ i = .int .i64 k ∧ Hid (∀ j, j < k → a[j]? = b[j]?) ∧ Hid (Below w.heap.size w wr)) (fun i _ => n - (intOf i).toNat)
    case atStart => exact ⟨0, Nat.zero_le _, rfl, Lib.hid (fun j hj => by omega), Lib.hid (Below.refl _ _)⟩
    case round =>
      obtain ⟨k, hk, rfl, HE, BW⟩ := hrel
      by_cases hlt : k < n
      · obtain ⟨t, ht⟩ : ∃ t, a[k]? = some t := ⟨a[k]'(by rw [HN.out]; exact hlt), List.getElem?_eq_getElem (by rw [HN.out]; exact hlt)⟩
        obtain ⟨u, hu⟩ : ∃ u, b[k]? = some u := ⟨b[k]'(by rw [HM.out]; exact hlt), List.getElem?_eq_getElem (by rw [HM.out]; exact hlt)⟩
        obtain ⟨g1, o1, c1, hv1, _, _, hgl1, k1⟩ := (HA.out.keep BW.out).get (i := k) (x := t.cells) (by simp [ht])
        obtain ⟨g2, o2, c2, hv2, _, _, hgl2, k2⟩ := (HB.out.keep BW.out).get (i := k) (x := u.cells) (by simp [hu])
        simp only [List.length_map, HN.out, HM.out, Value.slice.injEq, true_and] at hv1 hv2
        obtain ⟨rfl, rfl⟩ := hv1
        obtain ⟨rfl, rfl⟩ := hv2
        have p0 := k1 0 _ rfl
        have p1 := k1 1 _ rfl
        have p2 := k1 2 _ rfl
        have r0 := k2 0 _ rfl
        have r1 := k2 1 _ rfl
        have r2 := k2 2 _ rfl
        simp only [Nat.add_zero] at p0 r0
        have hd : decide ((k : Int) < 0) = false := by simp
        have hd2 : decide ((n : Int) ≤ (k : Int)) = false := by simp; omega
        have HT := Lib.hid ht
        have HU := Lib.hid hu
        clear k1 k2 ht hu
        by_cases hq : t = u
        · have hvb : vlB t.k t.n t.t u.k u.n u.t = true := decide_eq_true hq
          have HQ := Lib.hid hq
          clear hq
          go_wp2_with fail
          go_quiet (fail)
          go_wp2_with fail
          go_roundw
          case rel =>
            refine ⟨k + 1, by omega, by go_num, Lib.hid ?_, Lib.hid (bdrewN BW.out _)⟩
            intro j hj
            rcases Nat.lt_or_eq_of_le (Nat.le_of_lt_succ hj) with h | rfl
            · exact HE.out j h
            · rw [HT.out, HU.out, HQ.out]
          case measure => simp [intOf]; omega
        · have hvb : vlB t.k t.n t.t u.k u.n u.t = false := decide_eq_false hq
          have hs : sameV a b = false := by
            unfold sameV
            rw [decide_eq_false]
            intro e
            have := HT.out
            rw [e, HU.out] at this
            simp at this
            exact hq this.symm
          have HS := Lib.hid hs
          clear hq hs
          go_wp2_with fail
          go_quiet (fail)
          go_wp2_with fail
          go_ret
          exact ⟨by rw [HS.out]; rfl, bdrewN BW.out _⟩
      · obtain rfl : k = n := by omega
        have hs : sameV a b = true := by
          unfold sameV
          rw [decide_eq_true]
          apply List.ext_getElem?
          intro j
          rcases Nat.lt_or_ge j k with h | h
          · exact HE.out j h
          · rw [List.getElem?_eq_none (by rw [HN.out]; exact h), List.getElem?_eq_none (by rw [HM.out]; exact h)]
        have HS := Lib.hid hs
        clear hs
        go_wp2_with fail
        go_ret
        exact ⟨by rw [HS.out]; rfl, BW.out⟩
  · have hs : sameV a b = false := by
      unfold sameV
      rw [decide_eq_false]
      intro e
      rw [e, HM.out] at HN
      exact hnm HN.out.symm
    have hd : ((n : Int) != (m : Int)) = true := by simpa using fun e => hnm (by omega)
    have HS := Lib.hid hs
    clear hs
    go_enter Tryd.func21, Tryd.ntmps21
    go_wp2_with fail
    go_ret
    exact ⟨by rw [HS.out]; rfl, Below.refl _ _⟩
end Go.Proofs.YtgilflkgibfjgaaDoor
namespace Go.Proofs.YtgilflkgibfjgaaDoor
open Go.RowKit
set_option linter.unusedVariables false

/-- The value at which a variable stands first. -/
def look : List (Trm × Vl) → List UInt8 → Option Vl
  | [], _ => none
  | p :: r, x => if p.1.x = x then some p.2 else look r x
def zV : Vl := ⟨0, 0, []⟩
/-- Constants meet their own value, variables one value each. -/
def okP (z : List (Trm × Vl)) : Prop := ∀ p ∈ z, if p.1.x = [] then p.2 = p.1.vl else look z p.1.x = some p.2
/-- The values of the variables. -/
def valsP (V : List (List UInt8)) (z : List (Trm × Vl)) : List Vl := V.map fun x => (look z x).getD zV

theorem look_some {a b : List (Trm × Vl)} {x : List UInt8} {v : Vl} (h : look a x = some v) : look (a ++ b) x = some v := by
  induction a with
  | nil => simp [look] at h
  | cons p r ih =>
    simp only [look, List.cons_append] at h ⊢
    split at h
    · rename_i hp; rw [if_pos hp]; exact h
    · rename_i hp; rw [if_neg hp]; exact ih h
theorem look_none {a b : List (Trm × Vl)} {x : List UInt8} (h : look a x = none) : look (a ++ b) x = look b x := by
  induction a with
  | nil => rfl
  | cons p r ih =>
    simp only [look, List.cons_append] at h ⊢
    split at h
    · cases h
    · rename_i hp; rw [if_neg hp]; exact ih h
theorem look_idx {z : List (Trm × Vl)} {x : List UInt8} {v : Vl} (h : look z x = some v) : ∃ (j : Nat) (p : Trm × Vl), z[j]? = some p ∧ p.1.x = x ∧ p.2 = v ∧ ∀ (k : Nat) (q : Trm × Vl), z[k]? = some q → q.1.x = x → j ≤ k := by
  induction z with
  | nil => simp [look] at h
  | cons p r ih =>
    simp only [look] at h
    split at h
    · rename_i hp
      simp only [Option.some.injEq] at h
      exact ⟨0, p, rfl, hp, h, fun _ _ _ _ => Nat.zero_le _⟩
    · rename_i hp
      obtain ⟨j, q, h1, h2, h3, h4⟩ := ih h
      refine ⟨j + 1, q, by simpa using h1, h2, h3, fun k q' hk hq => ?_⟩
      cases k with
      | zero =>
        simp only [List.getElem?_cons_zero, Option.some.injEq] at hk
        subst hk
        exact absurd hq hp
      | succ k =>
        have := h4 k q' (by simpa using hk) hq
        omega
theorem look_mem {z : List (Trm × Vl)} {x : List UInt8} {p : Trm × Vl} (hp : p ∈ z) (hx : p.1.x = x) : ∃ v, look z x = some v := by
  cases h : look z x with
  | some v => exact ⟨v, rfl⟩
  | none =>
    exfalso
    induction z with
    | nil => simp at hp
    | cons q r ih =>
      simp only [look] at h
      split at h
      · cases h
      · rename_i hq
        rcases List.mem_cons.1 hp with rfl | hp
        · exact hq hx
        · exact ih hp h

theorem mem_foldV (ts : List Trm) (o : List (List UInt8)) (x : List UInt8) : x ∈ ts.foldl addV o ↔ x ∈ o ∨ (x ≠ [] ∧ ∃ t ∈ ts, t.x = x) := by
  induction ts generalizing o with
  | nil => simp
  | cons t ts ih =>
    rw [List.foldl_cons, ih]
    have h : x ∈ addV o t ↔ x ∈ o ∨ (x ≠ [] ∧ t.x = x) := by
      unfold addV addN
      split
      · rename_i h
        constructor
        · exact .inl
        · rintro (h' | ⟨h1, h2⟩)
          · exact h'
          · rw [h] at h2
            exact absurd h2.symm h1
      · rename_i h
        split
        · rename_i h2
          constructor
          · exact .inl
          · rintro (h' | ⟨_, rfl⟩)
            · exact h'
            · exact h2
        · rename_i h2
          simp only [List.mem_append, List.mem_singleton]
          constructor
          · rintro (h' | rfl)
            · exact .inl h'
            · exact .inr ⟨h, rfl⟩
          · rintro (h' | ⟨_, rfl⟩)
            · exact .inl h'
            · exact .inr rfl
    rw [h]
    constructor
    · rintro ((h1 | ⟨h1, h2⟩) | ⟨h1, t', h2, h3⟩)
      · exact .inl h1
      · exact .inr ⟨h1, t, List.mem_cons_self, h2⟩
      · exact .inr ⟨h1, t', List.mem_cons_of_mem _ h2, h3⟩
    · rintro (h1 | ⟨h1, t', h2, h3⟩)
      · exact .inl (.inl h1)
      · rcases List.mem_cons.1 h2 with rfl | h2
        · exact .inl (.inr ⟨h1, h3⟩)
        · exact .inr ⟨h1, t', h2, h3⟩
theorem mem_atomVars (ts : List Trm) (x : List UInt8) : x ∈ atomVars ts ↔ (x ≠ [] ∧ ∃ t ∈ ts, t.x = x) := by
  unfold atomVars
  rw [mem_foldV]
  simp
theorem nodup_foldV (ts : List Trm) (o : List (List UInt8)) (h : o.Nodup) : (ts.foldl addV o).Nodup := by
  induction ts generalizing o with
  | nil => exact h
  | cons t ts ih =>
    rw [List.foldl_cons]
    refine ih _ ?_
    unfold addV addN
    split
    · exact h
    · split
      · exact h
      · rename_i h2
        rw [List.nodup_append]
        refine ⟨h, by simp, fun a ha b hb => ?_⟩
        simp only [List.mem_singleton] at hb
        subst hb
        exact fun e => h2 (e ▸ ha)
theorem nodup_atomVars (ts : List Trm) : (atomVars ts).Nodup := nodup_foldV ts [] List.nodup_nil
theorem empty_atomVars (ts : List Trm) : [] ∉ atomVars ts := fun h => ((mem_atomVars ts []).1 h).1 rfl

theorem okP_snoc {a : List (Trm × Vl)} {t : Trm} {v : Vl} (h : okP a) (hn : if t.x = [] then v = t.vl else look (a ++ [(t, v)]) t.x = some v) : okP (a ++ [(t, v)]) := by
  intro p hp
  rcases List.mem_append.1 hp with hp | hp
  · have := h p hp
    split at this
    · rename_i hx; rw [if_pos hx]; exact this
    · rename_i hx; rw [if_neg hx]; exact look_some this
  · simp only [List.mem_singleton] at hp
    subst hp
    exact hn

theorem idxI_at {V : List (List UInt8)} {x : List UInt8} {p : Nat} (h : idxI V x = p) : V[p]? = some x ∧ V.idxOf x = p := by
  unfold idxI at h
  split at h
  · rename_i hm
    have e : V.idxOf x = p := by omega
    subst e
    exact ⟨by rw [List.getElem?_eq_getElem (List.idxOf_lt_length_of_mem hm), List.getElem_idxOf], rfl⟩
  · omega
theorem idxOf_lt_take {V : List (List UInt8)} {x : List UInt8} {n : Nat} (h : x ∈ V.take n) : V.idxOf x < n := by
  have e : V.idxOf x = (V.take n).idxOf x := by
    conv => lhs; rw [← List.take_append_drop n V]
    rw [List.idxOf_append, if_pos h]
  rw [e]
  have := List.idxOf_lt_length_of_mem h
  rw [List.length_take] at this
  omega

theorem matchG_spec (z : List (Trm × Vl)) (V : List (List UInt8)) (hV : V = atomVars (z.map (·.1))) : ∀ (suf pre : List (Trm × Vl)) (o : List Vl), pre ++ suf = z → atomVars (pre.map (·.1)) = V.take o.length → o.length ≤ V.length →
    (∀ p, p < o.length → ∃ x y, V[p]? = some x ∧ o[p]? = some y ∧ look pre x = some y) → okP pre → (okP z → matchG V suf o = some (valsP V z)) ∧ (¬ okP z → matchG V suf o = none)
  | [], pre, o, hz, ha, hl, ho, hk => by
    rw [List.append_nil] at hz
    subst hz
    refine ⟨fun _ => ?_, fun h => absurd hk h⟩
    rw [← hV] at ha
    have hlen : V.length = o.length := by
      have := congrArg List.length ha
      rw [List.length_take] at this
      omega
    simp only [matchG, Option.some.injEq]
    apply List.ext_getElem?
    intro p
    unfold valsP
    rw [List.getElem?_map]
    rcases Nat.lt_or_ge p o.length with h | h
    · obtain ⟨x, y, h1, h2, h3⟩ := ho p h
      rw [h1, h2]
      simp [h3]
    · rw [List.getElem?_eq_none h, List.getElem?_eq_none (by omega)]
      rfl
  | (t, v) :: suf, pre, o, hz, ha, hl, ho, hk => by
    have ih := matchG_spec z V hV suf (pre ++ [(t, v)])
    have hz2 : (pre ++ [(t, v)]) ++ suf = z := by rw [← hz]; simp
    have hmem : (t, v) ∈ z := by rw [← hz]; simp
    have hk1 : (z.map (·.1))[pre.length]? = some t := by rw [← hz]; simp
    have hk2 : (z.map (·.1)).take pre.length = pre.map (·.1) := by
      rw [← hz, List.map_append, List.take_append_of_le_length (by simp)]
      exact List.take_of_length_le (by simp)
    have hk3 : (z.map (·.1)).take (pre.length + 1) = (pre ++ [(t, v)]).map (·.1) := by
      rw [List.take_add_one, hk2, hk1]
      simp
    have hoo : ∀ p, p < o.length → ∃ x y, V[p]? = some x ∧ o[p]? = some y ∧ look (pre ++ [(t, v)]) x = some y := fun p hp => by
      obtain ⟨x, y, h1, h2, h3⟩ := ho p hp
      exact ⟨x, y, h1, h2, look_some h3⟩
    simp only [matchG]
    by_cases hx : t.x = []
    · rw [if_pos hx]
      by_cases hv : v = t.vl
      · rw [if_pos hv]
        refine ih o hz2 ?_ hl hoo (okP_snoc hk (by rw [if_pos hx]; exact hv))
        rw [List.map_append, ← ha]
        unfold atomVars
        rw [List.foldl_append]
        simp [addV, hx]
      · rw [if_neg hv]
        refine ⟨fun h => absurd ?_ hv, fun _ => rfl⟩
        have := h _ hmem
        rwa [if_pos hx] at this
    · rw [if_neg hx]
      have ha' := ha
      rw [← hk2, hV] at ha'
      obtain ⟨p, hp, hpo, h1, h2⟩ := av_step hk1 hx ha' (by rw [← hV]; exact hl)
      rw [← hV, hk3] at h1 h2
      rw [← hV] at hp
      obtain ⟨hpv, hpi⟩ := idxI_at hp
      by_cases hpe : p = o.length
      · rw [if_pos (by rw [hp, hpe])]
        have hnone : look pre t.x = none := by
          cases hh : look pre t.x with
          | none => rfl
          | some y =>
            exfalso
            obtain ⟨j, q, hj, hq, _, _⟩ := look_idx hh
            have hm : t.x ∈ atomVars (pre.map (·.1)) := (mem_atomVars _ _).2 ⟨hx, q.1, List.mem_map_of_mem (List.mem_of_getElem? hj), hq⟩
            rw [ha] at hm
            have := idxOf_lt_take hm
            omega
        have hlk : look (pre ++ [(t, v)]) t.x = some v := by
          rw [look_none hnone]
          simp [look]
        refine ih (o ++ [v]) hz2 ?_ ?_ ?_ (okP_snoc hk (by rw [if_neg hx]; exact hlk))
        · rw [(h1 hpe).2]
          simp
        · have := (h1 hpe).1
          simpa using this
        · intro q hq
          by_cases hqo : q < o.length
          · obtain ⟨x, y, e1, e2, e3⟩ := hoo q hqo
            exact ⟨x, y, e1, by rw [List.getElem?_append_left hqo]; exact e2, e3⟩
          · have hqe : q = o.length := by simp at hq; omega
            subst hqe
            exact ⟨t.x, v, by rw [← hpe]; exact hpv, by simp, hlk⟩
      · have hplt : p < o.length := by omega
        rw [if_neg (by rw [hp]; omega)]
        obtain ⟨x, y, e1, e2, e3⟩ := ho p hplt
        rw [hpv] at e1
        simp only [Option.some.injEq] at e1
        subst e1
        have e4 : o[(idxI V t.x).toNat]? = some y := by rw [hp]; exact e2
        rw [e4]
        by_cases hv : y = v
        · subst hv
          rw [if_pos rfl]
          exact ih o hz2 (h2 hpe) hl hoo (okP_snoc hk (by rw [if_neg hx]; exact look_some e3))
        · rw [if_neg (by simpa using hv)]
          refine ⟨fun h => absurd ?_ hv, fun _ => rfl⟩
          have h3 := h _ hmem
          rw [if_neg hx, ← hz, look_some e3] at h3
          simpa using h3

theorem zip_fst {ts : List Trm} {vs : List Vl} (h : vs.length = ts.length) : (ts.zip vs).map (·.1) = ts := by
  rw [List.map_fst_zip (by omega)]
theorem matchR_ok {ts : List Trm} {vs : List Vl} (h : vs.length = ts.length) (hk : okP (ts.zip vs)) : matchR ts vs = some (valsP (atomVars ts) (ts.zip vs)) := by
  have := (matchG_spec (ts.zip vs) (atomVars ts) (by rw [zip_fst h]) (ts.zip vs) [] [] rfl (by simp [atomVars]) (Nat.zero_le _) (by simp) (by intro p hp; simp at hp)).1 hk
  unfold matchR
  rw [if_pos h, this]
theorem matchR_no {ts : List Trm} {vs : List Vl} (h : vs.length = ts.length) (hk : ¬ okP (ts.zip vs)) : matchR ts vs = none := by
  have := (matchG_spec (ts.zip vs) (atomVars ts) (by rw [zip_fst h]) (ts.zip vs) [] [] rfl (by simp [atomVars]) (Nat.zero_le _) (by simp) (by intro p hp; simp at hp)).2 hk
  unfold matchR
  rw [if_pos h, this]

/-- What the document asks at the place i. -/
def okI (z : List (Trm × Vl)) (i : Nat) : Prop := ∀ p, z[i]? = some p → (p.1.x = [] → p.1.vl = p.2) ∧ ∀ (j : Nat) (q : Trm × Vl), j < i → z[j]? = some q → p.1.x ≠ [] → p.1.x = q.1.x → p.2 = q.2
theorem okP_iff (z : List (Trm × Vl)) : okP z ↔ ∀ i, i < z.length → okI z i := by
  constructor
  · intro h i _ p hp
    have h1 := h p (List.mem_of_getElem? hp)
    refine ⟨fun hx => ?_, fun j q hj hq hx he => ?_⟩
    · rw [if_pos hx] at h1
      exact h1.symm
    · have h2 := h q (List.mem_of_getElem? hq)
      rw [if_neg hx] at h1
      rw [if_neg (by rw [← he]; exact hx), ← he, h1] at h2
      simpa using h2
  · intro h p hp
    obtain ⟨i, hi⟩ := List.getElem?_of_mem hp
    obtain ⟨h1, h2⟩ := h i (List.getElem?_eq_some_iff.1 hi).1 p hi
    split
    · rename_i hx
      exact (h1 hx).symm
    · rename_i hx
      obtain ⟨v, hv⟩ := look_mem hp rfl
      obtain ⟨j, q, hj, hq, hqv, hmin⟩ := look_idx hv
      have hji := hmin i p hi rfl
      rw [hv]
      rcases Nat.lt_or_eq_of_le hji with hlt | heq
      · rw [h2 j q hlt hj hx hq.symm, hqv]
      · subst heq
        rw [hi] at hj
        simp only [Option.some.injEq] at hj
        subst hj
        rw [hqv]

/-- The document fills the values from the last place down. -/
def fillV (V : List (List UInt8)) (z : List (Trm × Vl)) (l : List Vl) : List Vl := z.foldr (fun p o => if p.1.x = [] then o else o.set (V.idxOf p.1.x) p.2) l
theorem set_map : ∀ (V : List (List UInt8)) (f : List UInt8 → Vl) (a : List UInt8) (v : Vl), V.Nodup → (V.map f).set (V.idxOf a) v = V.map fun x => if a = x then v else f x
  | [], _, _, _, _ => rfl
  | b :: V, f, a, v, h => by
    obtain ⟨h1, h2⟩ := List.nodup_cons.1 h
    by_cases hb : b = a
    · subst hb
      rw [List.idxOf_cons_self]
      simp only [List.map_cons, List.set_cons_zero, if_pos]
      congr 1
      refine List.map_congr_left fun x hx => ?_
      have hne : ¬ b = x := fun e => h1 (by rw [e]; exact hx)
      rw [if_neg hne]
    · have hi : (b :: V).idxOf a = V.idxOf a + 1 := by
        have hb2 : (b == a) = false := by rw [beq_eq_false_iff_ne]; exact hb
        rw [List.idxOf_cons, hb2]
        rfl
      rw [hi]
      simp only [List.map_cons, List.set_cons_succ]
      rw [set_map V f a v h2, if_neg (fun e => hb e.symm)]
theorem fill_eq (V : List (List UInt8)) (h1 : V.Nodup) (h2 : [] ∉ V) : ∀ (z : List (Trm × Vl)), fillV V z (V.map fun _ => zV) = valsP V z
  | [] => rfl
  | p :: z => by
    show (if p.1.x = [] then fillV V z _ else (fillV V z _).set (V.idxOf p.1.x) p.2) = _
    rw [fill_eq V h1 h2 z]
    unfold valsP
    split
    · rename_i hx
      refine List.map_congr_left fun x hxm => ?_
      simp only [look]
      rw [if_neg (fun e => h2 (by rw [← hx, e]; exact hxm))]
    · rw [set_map V _ _ _ h1]
      refine List.map_congr_left fun x _ => ?_
      simp only [look]
      split <;> rfl
theorem valsP_len (V : List (List UInt8)) (z : List (Trm × Vl)) : (valsP V z).length = V.length := by unfold valsP; rw [List.length_map]
theorem fillV_len (V : List (List UInt8)) (z : List (Trm × Vl)) (l : List Vl) : (fillV V z l).length = l.length := by
  induction z with
  | nil => rfl
  | cons p z ih =>
    show (if p.1.x = [] then fillV V z l else (fillV V z l).set (V.idxOf p.1.x) p.2).length = _
    split
    · exact ih
    · rw [List.length_set]; exact ih
end Go.Proofs.YtgilflkgibfjgaaDoor
