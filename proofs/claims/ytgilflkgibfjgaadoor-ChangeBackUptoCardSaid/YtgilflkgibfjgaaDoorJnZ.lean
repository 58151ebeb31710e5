/- Texts while they are written; strings.Join of any list of texts. -/
import Derived.Test.YtgilflkgibfjgaaDoorGr
import Derived.Test.YtgilflkgibfjgaaDoorShelfJ
import Derived.Lib.Join
namespace Go.Proofs.YtgilflkgibfjgaaDoor
open Go.RowKit
set_option linter.unusedVariables false

theorem Tryd.infoTx9 : (Tryd.prog.info? 9).map (fun i => (i.zero, i.size, i.bytes)) = some (some (.string ⟨#[]⟩), 1, 16) := by kernel_rfl

/-- Texts while they are written. -/
def rowG {α : Type} (f : α → List UInt8) (cs : List α) (k : Nat) : List (List UInt8) := (cs.take k).map f ++ (cs.drop k).map fun _ => []
theorem rowG_len {α : Type} (f : α → List UInt8) (cs : List α) (k : Nat) : (rowG f cs k).length = cs.length := by
  unfold rowG
  simp
  omega
theorem rowG_set {α : Type} (f : α → List UInt8) {cs : List α} {k : Nat} {c : α} (h : cs[k]? = some c) : (rowG f cs k).set k (f c) = rowG f cs (k + 1) := by
  have hk := (List.getElem?_eq_some_iff.1 h).1
  have hl : ((cs.take k).map f).length = k := by rw [List.length_map, List.length_take]; omega
  have e1 : (cs.take (k + 1)).map f = (cs.take k).map f ++ [f c] := by
    rw [List.take_add_one, h]
    simp
  have e2 : cs.drop k = cs[k] :: cs.drop (k + 1) := List.drop_eq_getElem_cons hk
  unfold rowG
  rw [e1, e2, List.map_cons, List.set_append_right _ _ (by omega), hl, Nat.sub_self, List.set_cons_zero, List.append_assoc]
  rfl
theorem emptiesG {α : Type} : ∀ l : List α, List.replicate l.length [Value.string ⟨#[]⟩] = (l.map fun _ => ([] : List UInt8)).map strC
  | [] => rfl
  | _ :: l => by
    simp only [List.length_cons, List.replicate_succ, List.map_cons]
    rw [emptiesG l]
    rfl
theorem rowG_zero {α : Type} (f : α → List UInt8) (cs : List α) : (madeCells #[.string ⟨#[]⟩] cs.length).toList = ((rowG f cs 0).map strC).flatten := by
  have h := made_rows [.string ⟨#[]⟩] cs.length (by simp)
  rw [emptiesG cs, show cs.length * ([Value.string ⟨#[]⟩] : List Value).length = cs.length from Nat.mul_one _] at h
  unfold rowG
  simp only [List.take_zero, List.map_nil, List.drop_zero, List.nil_append]
  exact h
theorem rowG_all {α : Type} (f : α → List UInt8) (cs : List α) : rowG f cs cs.length = cs.map f := by
  unfold rowG
  simp
theorem strG1 (l : List (List UInt8)) : ∀ x ∈ l.map strC, x.length = 1 := by
  intro x hx
  simp at hx
  obtain ⟨t, _, rfl⟩ := hx
  rfl
/-- A text stored into a row of the call's own. -/
theorem own_setTextG {w : World} {g k n cap base : Nat} {l : List (List UInt8)} {s : List UInt8} (hown : w.ownsRow base 9 1 (.slice (some ⟨g, 0, none⟩) n cap) n (l.map strC).flatten) (hn : l.length = n) (hk : k < n) :
    (w.setCell ⟨g, k, none⟩ (.string ⟨s.toArray⟩)).ownsRow base 9 1 (.slice (some ⟨g, 0, none⟩) n cap) n ((l.set k s).map strC).flatten ∧ Mod (fun j => j = g) w (w.setCell ⟨g, k, none⟩ (.string ⟨s.toArray⟩)) := by
  have h := own_setCells (cells := [.string ⟨s.toArray⟩]) hown (strG1 l) (by rw [List.length_map, hn]) hk (by intro v hv; simp at hv; subst hv; rfl)
  have e : w.setCells g (k * ([Value.string ⟨s.toArray⟩] : List Value).length) [.string ⟨s.toArray⟩] = w.setCell ⟨g, k, none⟩ (.string ⟨s.toArray⟩) := by
    simp [World.setCells]
  rw [e] at h
  rw [List.map_set]
  exact ⟨h.1, h.2.1⟩
theorem Mod.ownG {b g : Nat} {w0 w w' : World} (hz : w0.heap.size = g) (h : Below g w0 w) (hm : Mod (fun k => k = b) w w') (hb : g ≤ b) : Below g w0 w' := by
  subst hz
  exact Mod.own h hm hb
theorem Below.allocG {g : Nat} {w0 w : World} (hz : w0.heap.size = g) (h : Below g w0 w) (o : Obj) : Below g w0 (w.alloc o) := by
  subst hz
  exact balloc h o
theorem ownG_strs {base : Nat} {w : World} {v : Value} {n : Nat} {l : List (List UInt8)} (h : w.ownsRow base 9 1 v n (l.map strC).flatten) (hn : l.length = n) (hs : n ≤ 8796093022208) : StrsAt w v l :=
  RowAt.ofOwn h (by rw [List.length_map, hn]) (strG1 l) (by rw [List.length_map, hn]; exact hs)
theorem textsG (l : List (List UInt8)) : (l.map fun s => (⟨s.toArray⟩ : ByteArray)).map (·.data.toList) = l := by
  rw [List.map_map]
  conv => rhs; rw [← List.map_id l]
  apply List.map_congr_left
  intro a _
  simp
/-- strings.Join of any list of texts. -/
theorem join_any (w : World) (v : Value) (l : List (List UInt8)) (sep : ByteArray) (h : StrsAt w v l) (hj : (Lib.join l sep.data.toList).length ≤ 140737488355328) :
    Calls Tryd.prog 67 #[v, .string sep] w fun e w' => e = .returned (.string ⟨(Lib.join l sep.data.toList).toArray⟩) ∧ Below w.heap.size w w' := by
  have hll := h.len
  by_cases h0 : l = []
  · subst h0
    obtain ⟨ad, cap, rfl, _, _⟩ := h.form
    refine (Tryd.strings_Join_none ad cap sep w).mono ?_
    rintro e w' ⟨rfl, rfl⟩
    exact ⟨by rw [Lib.join_nil], Below.refl _ _⟩
  · have hl : 0 < l.length := List.length_pos_iff.2 h0
    obtain ⟨b, off, cap, rfl, hc, hm, hb, _⟩ := h.get (i := 0) (List.getElem?_eq_getElem hl)
    have hj2 := Tryd.strings_Join b off cap (l.map fun s => (⟨s.toArray⟩ : ByteArray)) sep w (fun j x hx => by
      rw [List.getElem?_map] at hx
      cases hs : l[j]? with
      | none => rw [hs] at hx; simp at hx
      | some s =>
        rw [hs] at hx
        simp only [Option.map_some, Option.some.injEq] at hx
        subst hx
        obtain ⟨b', off', cap', hv, _, _, _, hcell⟩ := h.get hs
        simp only [Value.slice.injEq, Option.some.injEq, Addr.mk.injEq, and_true, true_and] at hv
        obtain ⟨⟨rfl, rfl⟩, rfl⟩ := hv
        exact hcell) hb (by rw [List.length_map]; omega) (by rw [List.length_map]; exact hc) (by rw [textsG]; exact hj)
    rw [textsG, List.length_map] at hj2
    exact hj2
end Go.Proofs.YtgilflkgibfjgaaDoor
