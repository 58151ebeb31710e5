/- The frame of the laws that take a script: the script's argument opened. -/
import Derived.Test.YtppoakomeaamhaaOn2
import Derived.Test.YtppoakomeaamhaaLaw
import Derived.Test.YtppoakomeaamhaaChecked
import Derived.Test.YtppoakomeaamhaaRows
import Derived.Deep.Slices
import Derived.Deep.Fields
import Derived.ChangeSame
import Derived.SizedLaws
namespace Go.Proofs.Ytppoakomeaamhaa
open Go.ChangeShapes Go.WideShapes Go.ChangeAt Go.RowKit Go.Deep

section
variable {H : Type} {enc : TypeId × Value → H} {P : Program} {w : World} {base : Nat} {spare : Nat → Bool} {held : Bool}
/-- A slice of structs of one-cell fields, opened. -/
theorem open_slice_fields {t e : TypeId} {fs : Array Field} {fuel : Nat} {cs : List Value} {x : DataW H × List MemPlace} (ht : P.underlying t = some (.slice e)) (he : P.underlying e = some (.struct fs))
    (hone : oneCellFields P fs = true) (hC : P.cellsOf e = fs.size) (h : DataW.trod enc P w base spare held fuel t cs = some x) :
    (cs = [.slice none 0 0] ∧ x = (.nil, [])) ∨
    ∃ (a : Addr) (len cap m : Nat) (D : Nat → DataW H) (Pl : Nat → List MemPlace), cs = [.slice (some a) len cap] ∧ base ≤ a.block ∧ len ≤ cap ∧ cap ≤ maxLen ∧ m = (if spare a.block then cap else len) ∧
      x = (.slice ((List.range len).map D) ((List.range (m - len)).map fun j => D (len + j)), MemPlace.row a (m * fs.size) ++ (List.range m).flatMap Pl) ∧
      ∀ i, i < m → ∃ (ys : List (DataW H × List MemPlace)) (n : Nat), D i = .agg (ys.map (·.1)) ∧ Pl i = ys.flatMap (·.2) ∧ ys.length = fs.size ∧
        ∀ (j : Nat) (f : Field), fs[j]? = some f → ∃ (v : Value) (y : DataW H × List MemPlace), w.cell? (a.add (i * fs.size + j)) = some v ∧ ys[j]? = some y ∧ DataW.trod enc P w base spare held n f.type [v] = some y := by
  rcases open_slice ht h with h0 | ⟨a, len, cap, m, n, D, Pl, hcs, hb, hl, hm, hmm, hx, hi⟩
  · exact .inl h0
  · refine .inr ⟨a, len, cap, m, D, Pl, hcs, hb, hl, hm, hmm, by rw [hC] at hx; exact hx, fun i him => ?_⟩
    obtain ⟨cs', hc, ht'⟩ := hi i him
    rw [hC] at hc
    obtain ⟨ys, n', hn', hy, hlen, hyl, hf⟩ := DataW.trod_struct he ht'
    obtain ⟨_, hcl, hat⟩ := World.cells?_some hc
    simp only [Prod.mk.injEq] at hy
    refine ⟨ys, n', hy.1, hy.2, hyl, fun j f hj => ?_⟩
    obtain ⟨ho, hk⟩ := hone_of hone j f hj
    have hjl : j < fs.size := (Array.getElem?_eq_some_iff.1 hj).1
    have hcell := hat j hjl
    have hv : cs'[j]? = some (cs'[j]'(by omega)) := List.getElem?_eq_getElem (by omega)
    have h1 := hf j f hj
    rw [ho, hk] at h1
    have hone' : (cs'.drop j).take 1 = [cs'[j]'(by omega)] := by
      rw [List.drop_eq_getElem_cons (by omega)]
      rfl
    rw [hone'] at h1
    have hys : ys[j]? = some (ys[j]'(by omega)) := List.getElem?_eq_getElem (by omega)
    refine ⟨_, _, ?_, hys, h1.trans hys⟩
    rw [← Go.Deep.add_add, hcell, hv]

end

/-- What lies behind an argument that is a script. -/
theorem script_open {H : Type} {enc : TypeId × Value → H} {W : World} {base : Nat} {v : Value} {d : DataW H} {p : List MemPlace} {ts : List TypeId} {ds : List (DataW H)} {j : Nat}
    (hv : Value.okWide Try.prog W .any base 29 v) (h : DataW.Trod enc Try.prog W 0 (fun _ => true) true 29 v d p)
    (hsz : (DataW.weightsEach Try.prog ts ds).all (· ≤ reachBytes) = true) (ht : ts[j]? = some 29) (hd : ds[j]? = some d) : ∃ n, Script W v n := by
  obtain ⟨a0, len, cap, rfl⟩ := okWide_slice Try.underlying29 hv
  obtain ⟨fuel, hf⟩ := h
  refine ⟨len, ?_⟩
  rcases open_slice_fields Try.underlying29 Try.underlying36 (by kernel_rfl) (by kernel_rfl) hf with ⟨hcs, hx⟩ | ⟨a, len', cap', m, D, Pl, hcs, _, hl, hm, hmm, hx, hcell⟩
  · simp [Value.cells] at hcs
    obtain ⟨rfl, rfl, rfl⟩ := hcs
    exact ⟨Nat.zero_le _, none, 0, rfl, .inl rfl⟩
  · simp [Value.cells] at hcs
    obtain ⟨rfl, rfl, rfl⟩ := hcs
    simp only [if_true] at hmm
    subst hmm
    simp only [Prod.mk.injEq] at hx
    obtain ⟨rfl, rfl⟩ := hx
    have hs := sized_slice hsz ht hd Try.underlying29
    have hb : Try.prog.bytesOf 36 = 32 := by kernel_rfl
    rw [hb] at hs
    simp only [List.length_map, List.length_range] at hs
    have hr : reachBytes = 140737488351232 := by decide
    rw [hr] at hs
    refine ⟨by omega, some a, _, rfl, ?_⟩
    by_cases h0 : len = 0
    · exact .inl h0
    right
    have hone : ∀ i, i < len → ∃ q : Int × Int × Int × Int, W.cell? (a.add (i * 4 + 0)) = some (.int .i64 q.1) ∧ W.cell? (a.add (i * 4 + 1)) = some (.int .i64 q.2.1) ∧ W.cell? (a.add (i * 4 + 2)) = some (.int .i64 q.2.2.1) ∧ W.cell? (a.add (i * 4 + 3)) = some (.int .i64 q.2.2.2) := by
      intro i hi
      obtain ⟨ys, n, _, _, _, hf⟩ := hcell i (by omega)
      obtain ⟨u0, y0, e0, _, k0⟩ := hf 0 _ rfl
      obtain ⟨z0, g0, _⟩ := DataW.trod_int Try.underlying3 k0
      simp at g0
      subst g0
      obtain ⟨u1, y1, e1, _, k1⟩ := hf 1 _ rfl
      obtain ⟨z1, g1, _⟩ := DataW.trod_int Try.underlying3 k1
      simp at g1
      subst g1
      obtain ⟨u2, y2, e2, _, k2⟩ := hf 2 _ rfl
      obtain ⟨z2, g2, _⟩ := DataW.trod_int Try.underlying3 k2
      simp at g2
      subst g2
      obtain ⟨u3, y3, e3, _, k3⟩ := hf 3 _ rfl
      obtain ⟨z3, g3, _⟩ := DataW.trod_int Try.underlying3 k3
      simp at g3
      subst g3
      exact ⟨(z0, z1, z2, z3), e0, e1, e2, e3⟩
    obtain ⟨b, off, spot⟩ := a
    have hspot : spot = none := by
      obtain ⟨q, h0', _⟩ := hone 0 (by omega)
      simpa [Addr.add] using World.cell?_spot h0'
    subst hspot
    have hlt : b < W.heap.size := by
      obtain ⟨q, h0', _⟩ := hone 0 (by omega)
      have := World.block_lt_of_cell? W _ h0'
      simpa [Addr.add] using this
    refine ⟨b, off, fun i => if hi : i < len then Classical.choose (hone i hi) else (0, 0, 0, 0), rfl, hlt, fun i hi => ?_⟩
    simp only [hi, dif_pos]
    have := Classical.choose_spec (hone i hi)
    simpa [Addr.add_lit, Nat.add_assoc] using this
end Go.Proofs.Ytppoakomeaamhaa
