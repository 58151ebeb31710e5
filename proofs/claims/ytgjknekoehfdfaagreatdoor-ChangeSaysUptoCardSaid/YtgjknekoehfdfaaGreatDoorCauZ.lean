/- A batch as an argument of bounded bulk, opened: its texts are bounded too. -/
import Derived.Test.YtgjknekoehfdfaaGreatDoorCatZ
namespace Go.Proofs.YtgjknekoehfdfaaGreatDoor
open Go.ChangeShapes Go.WideShapes Go.ChangeAt Go.RowKit Go.Deep
set_option linter.unusedVariables false
section
variable {H : Type} {enc : TypeId × Value → H} {w : World} {spare : Nat → Bool} {held : Bool}
set_option maxRecDepth 100000 in
theorem batch_argU {base : Nat} {v : Value} {d : DataW H} {p : List MemPlace} (hv : Value.okWide Tryz.prog w .any base 22 v) (h : DataW.Trod enc Tryz.prog w 0 spare held 22 v d p) (hs : Sz Tryz.prog 22 d) :
    ∃ l : List Chg, ChgsAt w v l ∧ RangeB l ∧ (∀ c ∈ l, c.rel.length ≤ 140737488351232 ∧ ∀ u ∈ c.row, u.t.length ≤ 140737488351232) ∧ l.length ≤ Rows.uptoBulk d := by
  have hb : Tryz.prog.bytesOf 30 = 48 := by kernel_rfl
  obtain ⟨a0, len, cap, rfl⟩ := okWide_slice Tryz.underlying22 hv
  obtain ⟨n, hn⟩ := h
  obtain ⟨rows, hr, hd⟩ := open_rows (sz := 3) (x := (d, p)) Tryz.underlying22 (by kernel_rfl) (by decide) (by simpa [Value.cells] using hn) (fun el sp e => by
    have e' : d = .slice el sp := e
    have hs' := hs
    rw [e'] at hs'
    have := hs'.len Tryz.underlying22
    rw [hb] at this
    omega)
  rcases hd with ⟨rfl, _⟩ | ⟨el, sp, e, hl, hi⟩
  · exact ⟨[], ⟨[], hr, trivial⟩, fun c hc => by simp at hc, by simp, Nat.zero_le _⟩
  · have e' : d = .slice el sp := e
    have hs' := hs
    rw [e'] at hs'
    have hse := fun d' (hd : d' ∈ el) => hs'.elem Tryz.underlying22 hd
    have hle := hs'.len Tryz.underlying22
    rw [hb, hl] at hle
    obtain ⟨al, hal⟩ := all2_of (fun (row : List Value) (a : {a : Chg // (∀ u ∈ a.row, RangeV u ∧ u.t.length ≤ 140737488351232) ∧ a.rel.length ≤ 140737488351232}) => ChgC w row a.1) rows (fun row hrow => by
      obtain ⟨i, hi'⟩ := List.getElem?_of_mem hrow
      obtain ⟨_, n', d', Pl, hdi, hti⟩ := hi i row hi'
      obtain ⟨a, h1, h2, h3⟩ := chg_openT hti (hse _ (List.mem_of_getElem? hdi))
      exact ⟨⟨a, h2, h3⟩, h1⟩)
    have h2 : All2 (ChgC w) rows (al.map (·.1)) := by
      clear hi hse hl hle hr
      induction rows generalizing al with
      | nil => cases al with
        | nil => trivial
        | cons _ _ => exact hal.elim
      | cons p z ih => cases al with
        | nil => exact hal.elim
        | cons a al => exact ⟨hal.1, ih al hal.2⟩
    have hll := h2.length
    have hbl := bulk_len el
    have hsub : rows.length ≤ Rows.uptoBulk d := by
      rw [e']
      simp only [Rows.uptoBulk]
      omega
    refine ⟨al.map (·.1), ⟨rows, hr, h2⟩, fun c hc u hu => ?_, fun c hc => ?_, by omega⟩
    · obtain ⟨q, _, rfl⟩ := List.mem_map.1 hc
      exact (q.2.1 u hu).1
    · obtain ⟨q, _, rfl⟩ := List.mem_map.1 hc
      exact ⟨q.2.2, fun u hu => (q.2.1 u hu).2⟩
end
end Go.Proofs.YtgjknekoehfdfaaGreatDoor
