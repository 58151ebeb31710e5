/- The frame of ArenaTwo: a script of bounded bulk, each number within its kind. -/
import Derived.Test.YtppoakomeaamhaaLawU
import Derived.Test.YtppoakomeaamhaaTw1
namespace Go.Proofs.Ytppoakomeaamhaa
open Go.ChangeShapes Go.WideShapes Go.ChangeAt Go.RowKit Go.Deep

/-- What lies behind an argument that is a script, where its bulk is bounded. -/
theorem script_bulkR {H : Type} {enc : TypeId × Value → H} {W : World} {base : Nat} {v : Value} {d : DataW H} {p : List MemPlace}
    (hv : Value.okWide Try.prog W .any base 29 v) (h : DataW.Trod enc Try.prog W 0 (fun _ => true) true 29 v d p)
    (hb : Rows.uptoBulk d ≤ 1048576) : ∃ n, ScriptR W v n ∧ n ≤ 262144 := by
  obtain ⟨a0, len, cap, rfl⟩ := okWide_slice Try.underlying29 hv
  obtain ⟨fuel, hf⟩ := h
  suffices hx : ScriptR W (.slice a0 len cap) len ∧ len ≤ 262144 from ⟨len, hx⟩
  rcases open_slice_fields Try.underlying29 Try.underlying36 (by kernel_rfl) (by kernel_rfl) hf with ⟨hcs, hx⟩ | ⟨a, len', cap', m, D, Pl, hcs, _, hl, hm, hmm, hx, hcell⟩
  · simp [Value.cells] at hcs
    obtain ⟨rfl, rfl, rfl⟩ := hcs
    exact ⟨⟨Nat.zero_le _, none, 0, rfl, .inl rfl⟩, Nat.zero_le _⟩
  · simp [Value.cells] at hcs
    obtain ⟨rfl, rfl, rfl⟩ := hcs
    simp only [if_true] at hmm
    subst hmm
    simp only [Prod.mk.injEq] at hx
    obtain ⟨rfl, rfl⟩ := hx
    have hlen : len ≤ 262144 := by
      have h1 : ∀ l : List Nat, (∀ i ∈ l, i < len) → 4 * l.length ≤ Rows.uptoBulkAll (l.map D) := by
        intro l
        induction l with
        | nil => intro _; simp
        | cons i l ih =>
          intro hi
          have h2 := ih (fun j hj => hi j (by simp [hj]))
          obtain ⟨ys, n, hD, _, hys, _⟩ := hcell i (by have := hi i (by simp); omega)
          have hys4 : ys.length = 4 := hys
          have h3 := bulk_len (ys.map (·.1))
          rw [List.length_map, hys4] at h3
          simp only [List.map_cons, Rows.uptoBulkAll, List.length_cons, hD, Rows.uptoBulk]
          omega
      have h2 := h1 (List.range len) (fun i hi => List.mem_range.1 hi)
      rw [List.length_range] at h2
      simp only [Rows.uptoBulk] at hb
      omega
    refine ⟨⟨by omega, some a, _, rfl, ?_⟩, hlen⟩
    by_cases h0 : len = 0
    · exact .inl h0
    right
    have hone : ∀ i, i < len → ∃ q : Int × Int × Int × Int, W.cell? (a.add (i * 4 + 0)) = some (.int .i64 q.1) ∧ W.cell? (a.add (i * 4 + 1)) = some (.int .i64 q.2.1) ∧ W.cell? (a.add (i * 4 + 2)) = some (.int .i64 q.2.2.1) ∧ W.cell? (a.add (i * 4 + 3)) = some (.int .i64 q.2.2.2) ∧ -9223372036854775808 ≤ q.2.2.2 ∧ q.2.2.2 ≤ 9223372036854775807 := by
      intro i hi
      obtain ⟨ys, n, _, _, _, hf⟩ := hcell i (by omega)
      obtain ⟨u0, y0, e0, _, k0⟩ := hf 0 _ rfl
      obtain ⟨z0, g0, _⟩ := DataW.trod_int Try.underlying3 k0
      simp at g0
      subst g0
      obtain ⟨u1, y1, e1, _, k1⟩ := hf 1 _ rfl
      obtain ⟨z1, g1, _⟩ := DataW.trod_int Try.underlying3 k1
      simp at g1
      subst g1
      obtain ⟨u2, y2, e2, _, k2⟩ := hf 2 _ rfl
      obtain ⟨z2, g2, _⟩ := DataW.trod_int Try.underlying3 k2
      simp at g2
      subst g2
      obtain ⟨u3, y3, e3, _, k3⟩ := hf 3 _ rfl
      obtain ⟨z3, g3, r3⟩ := DataW.trod_int Try.underlying3 k3
      simp at g3
      subst g3
      have r4 : -9223372036854775808 ≤ z3 ∧ z3 ≤ 9223372036854775807 := by simpa [Lit.wf, IntKind.min, IntKind.max, IntKind.signed, IntKind.bits] using r3.2
      exact ⟨(z0, z1, z2, z3), e0, e1, e2, e3, r4.1, r4.2⟩
    obtain ⟨b, off, spot⟩ := a
    have hspot : spot = none := by
      obtain ⟨q, h0', _⟩ := hone 0 (by omega)
      simpa [Addr.add] using World.cell?_spot h0'
    subst hspot
    have hlt : b < W.heap.size := by
      obtain ⟨q, h0', _⟩ := hone 0 (by omega)
      have := World.block_lt_of_cell? W _ h0'
      simpa [Addr.add] using this
    refine ⟨b, off, fun i => if hi : i < len then Classical.choose (hone i hi) else (0, 0, 0, 0), rfl, hlt, fun i hi => ?_⟩
    simp only [hi, dif_pos]
    have := Classical.choose_spec (hone i hi)
    simpa [Addr.add_lit, Nat.add_assoc] using this
end Go.Proofs.Ytppoakomeaamhaa
