/- ValueOrders: Compare is a total order, 0 just at equal values, numbers by their size and ahead of texts. Conditions: none: for every input. -/
import Derived.Test.YthfibaajmbhdkaaLaw
import Derived.Test.YthfibaajmbhdkaaOrdW
import Derived.Lib.SmallJoins
namespace Go.Proofs.Ythfibaajmbhdkaa
open Go.ChangeShapes Go.WideShapes Go.ChangeAt Go.RowKit Go.Joins

theorem toList_inj {a b : ByteArray} (h : a.toList = b.toList) : a = b := bytes_ext (by rw [← ByteArray.toList_eq, ← ByteArray.toList_eq]; exact h)

theorem orders_law (k1 n1 : Int) (t1 : ByteArray) (k2 n2 : Int) (t2 : ByteArray) (k3 n3 : Int) (t3 : ByteArray) (w : World) :
    Calls Try.prog 3 #[.agg #[.int .i64 k1, .int .i64 n1, .string t1], .agg #[.int .i64 k2, .int .i64 n2, .string t2], .agg #[.int .i64 k3, .int .i64 n3, .string t3]] w fun e w' =>
      e = .returned (.bool true) ∧ Below w.heap.size w w' := by
  have hba := cmpV_anti k1 n1 t1 k2 n2 t2
  rcases cmpV_vals k1 n1 t1 k2 n2 t2 with h | h | h
  · rw [h] at hba
    have HN : Hid (((-1 : Int)) = 0 ↔ (k1 = k2 ∧ n1 = n2 ∧ t1.toList = t2.toList)) := by
      refine ⟨fun e => by omega, ?_⟩
      rintro ⟨rfl, rfl, e⟩
      rw [toList_inj e, cmpV_refl] at h
      omega
    have HI : Hid (k1 = 1 → k2 = 1 → t1.toList = t2.toList → ((-1 : Int) < 0 ↔ n1 < n2)) := by
      rintro rfl rfl e
      rw [toList_inj e, cmpV_int] at h
      rcases cmpI_vals n1 n2 with h1 | h1 | h1 <;> omega
    by_cases hbc : cmpV k2 n2 t2 k3 n3 t3 ≤ 0
    · exact orders_lt_le k1 n1 t1 k2 n2 t2 k3 n3 t3 w h (by omega) hbc (cmpV_trans (by omega) hbc) HN HI
    · exact orders_lt_gt k1 n1 t1 k2 n2 t2 k3 n3 t3 w h (by omega) (by omega) HN HI
  · obtain ⟨rfl, rfl, rfl⟩ := cmpV_eq h
    exact orders_eq k1 n1 t1 k3 n3 t3 w h
  · rw [h] at hba
    have HN : Hid (((1 : Int)) = 0 ↔ (k1 = k2 ∧ n1 = n2 ∧ t1.toList = t2.toList)) := by
      refine ⟨fun e => by omega, ?_⟩
      rintro ⟨rfl, rfl, e⟩
      rw [toList_inj e, cmpV_refl] at h
      omega
    have HI : Hid (k1 = 1 → k2 = 1 → t1.toList = t2.toList → ((1 : Int) < 0 ↔ n1 < n2)) := by
      rintro rfl rfl e
      rw [toList_inj e, cmpV_int] at h
      rcases cmpI_vals n1 n2 with h1 | h1 | h1 <;> omega
    exact orders_gt k1 n1 t1 k2 n2 t2 k3 n3 t3 w h (by omega) HN HI

set_option maxRecDepth 100000 in
theorem orders_lifted (os : Os) (started : os.Started) (H : Type) (enc : TypeId × Value → H) :
    ReturnsInHanded {} Try.checked os 3 .any (Rows.valueOrdersSpec.pre6 enc Try.prog Try.f3 Rows.valueOrdersRow.domain false) (Rows.valueOrdersSpec.post enc Try.prog Try.f3 false true false false) := by
  refine returnsInHanded_of_change (C := Try.checked) Try.own started (by kernel_rfl) Try.func3
    (ChangeSpec.witness6 (enc := enc) (C := Try.checked) false ⟨#[], #[.agg #[.int .i64 0, .int .i64 0, .string ⟨#[]⟩], .agg #[.int .i64 0, .int .i64 0, .string ⟨#[]⟩], .agg #[.int .i64 0, .int .i64 0, .string ⟨#[]⟩]], []⟩ 8 (by kernel_rfl) (by kernel_rfl) (by kernel_rfl) (by kernel_rfl)) ?_
  intro W base args ds gs before hval0 hW hcnd _
  have hval : ∀ (j : Nat) t v, Try.f3.params[j]? = some t → args[j]? = some v → Value.okWide Try.prog W .any base t v := hval0
  have hW' := hW
  obtain ⟨p, q, hA0, hV, rfl, hfz, hnd⟩ := hW
  have hA : DataW.TrodAll enc Try.prog W 0 (fun _ => true) true Try.f3.params.toList args.toList ds p := hA0
  rw [Try.params3] at hA hval
  have hAk := hA
  obtain ⟨v0, vs0, d0, ds0, p0, q0, hargs, rfl, rfl, h0, r0⟩ := trodAll_cons hA
  obtain ⟨v1, vs1, d1, ds1, p1, q1, rfl, rfl, rfl, h1, r1⟩ := trodAll_cons r0
  obtain ⟨v2, vs2, d2, ds2, p2, q2, rfl, rfl, rfl, h2, r2⟩ := trodAll_cons r1
  obtain ⟨rfl, rfl, rfl⟩ := trodAll_nil r2
  obtain rfl : args = #[v0, v1, v2] := by cases args; simp_all
  obtain ⟨rfl, rfl⟩ := trodVars_none hV
  have hc24 : Try.prog.cellsOf 24 = 3 := by kernel_rfl
  have opn : ∀ (j : Nat) (v : Value) (d : DataW H) (pp : List MemPlace), Value.okWide Try.prog W .any base 24 v → DataW.Trod enc Try.prog W 0 (fun _ => true) true 24 v d pp → ∃ (k n : Int) (t : ByteArray), v = .agg #[.int .i64 k, .int .i64 n, .string t] := by
    intro j v d pp hv hd
    obtain ⟨c0, c1, c2, y0, y1, y2, m, rfl, rfl, rfl, hy0, hy1, hy2⟩ := open_agg3 Try.underlying24 (by kernel_rfl) hc24 hv hd
    obtain ⟨a, e0, rfl, wa⟩ := DataW.trod_int Try.underlying22 hy0
    obtain ⟨b, e1, rfl, wb⟩ := DataW.trod_int Try.underlying2 hy1
    obtain ⟨c, e2, rfl, wc⟩ := DataW.trod_string Try.underlying9 hy2
    simp at e0 e1 e2
    subst e0 e1 e2
    exact ⟨_, _, _, rfl⟩
  obtain ⟨k1, n1, t1, rfl⟩ := opn 0 v0 d0 p0 (hval 0 24 v0 rfl rfl) h0
  obtain ⟨k2, n2, t2, rfl⟩ := opn 1 v1 d1 p1 (hval 1 24 v1 rfl rfl) h1
  obtain ⟨k3, n3, t3, rfl⟩ := opn 2 v2 d2 p2 (hval 2 24 v2 rfl rfl) h2
  clear hA0 hval0
  refine (orders_law k1 n1 t1 k2 n2 t2 k3 n3 t3 W).mono fun e W' ⟨he, bel⟩ => ?_
  subst he
  exact ⟨_, rfl, _, _, _, [], _, [], hW', trodAll_mk1 (shut_bool Try.underlying4 _), trodAll_below Try.laidOut bel _ _ _ _ (by kernel_rfl) hAk, rfl, bel.frame _, fun h => by cases h⟩

theorem orders_holds : Rows.ValueOrdersSaid :=
  OpenClaim.holds_of_wide 3 Try.f3 rfl rfl rfl rfl rfl rfl rfl ⟨rfl, rfl, rfl, rfl, rfl⟩ rfl rfl rfl rfl rfl (by kernel_rfl) Try.func3 (by kernel_rfl)
    (of_decide_eq_true (by kernel_rfl)) (by unfold Func.isWrapper; first | (rw [if_pos (by decide +kernel)]; kernel_rfl) | (rw [if_neg (by decide +kernel)]; exact ⟨rfl, rfl⟩))
    (fun os started H enc _ => orders_lifted os started H enc)
#print axioms orders_holds
end Go.Proofs.Ythfibaajmbhdkaa
