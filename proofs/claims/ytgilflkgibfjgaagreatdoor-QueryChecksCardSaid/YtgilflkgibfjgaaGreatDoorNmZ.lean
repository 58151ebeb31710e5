/- A map from texts to numbers that the call makes, told by the list of its keys and what stands at each. -/
import Derived.Test.YtgilflkgibfjgaaGreatDoorGb
import Derived.Maps.OwnSet
namespace Go.Proofs.YtgilflkgibfjgaaGreatDoor
open Go.RowKit Go.Maps
set_option linter.unusedVariables false

theorem Tryz.strKey : Keyed Tryz.prog 9 := string_keyed Tryz.underlying9
theorem strKl (s : List UInt8) (hs : s.length ≤ 140737488355328) : keyOf Tryz.prog 9 (.string ⟨s.toArray⟩) = some (.string s) := by
  have := Go.WideMaps.keyOf_string_mk (P := Tryz.prog) Tryz.underlying9 (s := ⟨s.toArray⟩) (by
    have : (⟨s.toArray⟩ : ByteArray).size = s.length := by simp [ByteArray.size]
    unfold maxLen
    omega)
  simpa using this
theorem strLit (s : List UInt8) : WideAt.IsKeyLit (.string s) := by
  simp [WideAt.IsKeyLit]
/-- What D holds: f of each key of l, and no other key. -/
def DMap (D : DataW Unit) (l : List (List UInt8)) (f : List UInt8 → Int) : Prop :=
  Tidy D ∧ Maps.size D = l.length ∧ (∀ s, Maps.has D (.string s) = decide (s ∈ l)) ∧ ∀ s, s ∈ l → ∀ z, D.atKey (.string s) z = .lit (.int .i64 (f s))
/-- Block b is such a map, its elements of type e. -/
def NumMap (w : World) (e : TypeId) (b : Nat) (l : List (List UInt8)) (f : List UInt8 → Int) : Prop :=
  ∃ D : DataW Unit, w.ownsMap Tryz.prog 9 (plainElem Tryz.prog e) b l.length D ∧ DMap D l f
theorem DMap.empty (f : List UInt8 → Int) : DMap (.map []) [] f := ⟨tidy_empty, rfl, fun s => by simp [Maps.has], fun s h => by simp at h⟩
theorem DMap.put {D : DataW Unit} {l : List (List UInt8)} {f g : List UInt8 → Int} {s : List UInt8} {c : Int} (h : DMap D l f) (hs : s ∉ l) (hc : g s = c) (hf : ∀ t ∈ l, g t = f t) : DMap (D.put (.string s) (.lit (.int .i64 c))) (l ++ [s]) g := by
  obtain ⟨h1, h2, h3, h4⟩ := h
  have hno : Maps.has D (.string s) = false := by rw [h3, decide_eq_false hs]
  refine ⟨h1.put (strLit s) _, ?_, fun t => ?_, fun t ht z => ?_⟩
  · rw [size_put h1, hno, h2]
    simp
  · by_cases e : t = s
    · subst e
      rw [has_put_same h1.isMap (strLit t)]
      simp
    · rw [has_put_other (fun q => e (by injection q)), h3]
      simp [e]
  · by_cases e : t = s
    · subst e
      rw [atKey_put_same h1.isMap (strLit t), hc]
    · rw [atKey_put_other (fun q => e (by injection q))]
      have ht' : t ∈ l := by simpa [e] using ht
      rw [h4 t ht' z, hf t ht']
/-- .. a key that is there, told anew. -/
theorem DMap.again {D : DataW Unit} {l : List (List UInt8)} {f g : List UInt8 → Int} {s : List UInt8} {c : Int} (h : DMap D l f) (hs : s ∈ l) (hc : g s = c) (hf : ∀ t ∈ l, t ≠ s → g t = f t) : DMap (D.put (.string s) (.lit (.int .i64 c))) l g := by
  obtain ⟨h1, h2, h3, h4⟩ := h
  have hyes : Maps.has D (.string s) = true := by rw [h3, decide_eq_true hs]
  refine ⟨h1.put (strLit s) _, ?_, fun t => ?_, fun t ht z => ?_⟩
  · rw [size_put h1, hyes, h2]
    simp
  · by_cases e : t = s
    · subst e
      rw [has_put_same h1.isMap (strLit t), decide_eq_true hs]
    · rw [has_put_other (fun q => e (by injection q)), h3]
  · by_cases e : t = s
    · subst e
      rw [atKey_put_same h1.isMap (strLit t), hc]
    · rw [atKey_put_other (fun q => e (by injection q)), h4 t ht z, hf t ht e]
theorem DMap.congr {D : DataW Unit} {l : List (List UInt8)} {f g : List UInt8 → Int} (h : DMap D l f) (hf : ∀ t ∈ l, g t = f t) : DMap D l g :=
  ⟨h.1, h.2.1, h.2.2.1, fun s hs z => by rw [h.2.2.2 s hs z, hf s hs]⟩
section
variable {w w' : World} {e : TypeId} {b : Nat} {l : List (List UInt8)} {f : List UInt8 → Int}
theorem NumMap.made (w : World) (e : TypeId) (f : List UInt8 → Int) : NumMap (w.alloc (.map #[] 0)) e w.heap.size [] f :=
  ⟨.map [], World.ownsMap_made _ _ _ _, DMap.empty f⟩
theorem NumMap.lt (h : NumMap w e b l f) : b < w.heap.size := by
  obtain ⟨D, h1, _⟩ := h
  exact h1.lt
theorem NumMap.keep (h : NumMap w e b l f) (hb : w'.heap[b]? = w.heap[b]?) : NumMap w' e b l f := by
  obtain ⟨D, ⟨es, clock, h1, h2⟩, h3⟩ := h
  exact ⟨D, ⟨es, clock, by rw [hb, h1], h2⟩, h3⟩
theorem NumMap.below {B : Nat} (h : NumMap w e b l f) (hb : Below B w w') (hB : b < B) : NumMap w' e b l f := h.keep (hb.block b hB)
theorem NumMap.mt {B : Nat} {Ts : List TypeId} (h : NumMap w e b l f) (hm : MT B Ts w w') : NumMap w' e b l f := by
  obtain ⟨D, ⟨es, clock, h1, h2⟩, h3⟩ := h
  refine ⟨D, ⟨es, clock, ?_, h2⟩, h3⟩
  rw [hm.block b (Array.getElem?_eq_some_iff.1 h1).1, h1]
  rintro ⟨_, cs, t, fr, h4, _⟩
  rw [h1] at h4
  cases h4
theorem NumMap.setCell (h : NumMap w e b l f) {p : Addr} (hp : p.block ≠ b) (u : Value) : NumMap (w.setCell p u) e b l f :=
  h.keep (Below.heap_setCell _ _ _ _ (fun q => hp q.symm))
theorem NumMap.alloc (h : NumMap w e b l f) (o : Obj) : NumMap (w.alloc o) e b l f := by
  obtain ⟨D, h1, h2⟩ := h
  exact ⟨D, h1.alloc o, h2⟩
theorem NumMap.drewN (h : NumMap w e b l f) (n : Nat) : NumMap (w.drewN n) e b l f := h.keep (by simp [World.drewN])
theorem NumMap.congr {g : List UInt8 → Int} (h : NumMap w e b l f) (hf : ∀ t ∈ l, g t = f t) : NumMap w e b l g := by
  obtain ⟨D, h1, h2⟩ := h
  exact ⟨D, h1, h2.congr hf⟩
end
end Go.Proofs.YtgilflkgibfjgaaGreatDoor
