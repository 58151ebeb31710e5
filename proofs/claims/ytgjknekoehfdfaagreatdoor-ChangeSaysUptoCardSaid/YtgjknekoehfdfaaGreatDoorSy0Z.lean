/- What ChangeSays says, plainly. -/
import Derived.Test.YtgjknekoehfdfaaGreatDoorNb
namespace Go.Proofs.YtgjknekoehfdfaaGreatDoor
set_option linter.unusedVariables false

theorem alikeC_self (c : Chg) : alikeC c c = true := alikeC_iff.2 (cmpC_self c)
theorem alikeC_symm {a b : Chg} (h : alikeC a b = true) : alikeC b a = true := by
  have h1 := alikeC_iff.1 h
  have h2 := cmpC_anti a b
  exact alikeC_iff.2 (by omega)
theorem alikeC_trans {a b c : Chg} (h : alikeC a b = true) (k : alikeC b c = true) : alikeC a c = true := by
  have h1 := cmpC_zero.1 (alikeC_iff.1 h)
  have h2 := cmpC_zero.1 (alikeC_iff.1 k)
  exact alikeC_iff.2 (cmpC_zero.2 ⟨h1.1.trans h2.1, h1.2.trans h2.2⟩)
theorem alikeC_comm (a b : Chg) : alikeC a b = alikeC b a := by
  cases h : alikeC a b with
  | true => exact (alikeC_symm h).symm
  | false =>
    cases h2 : alikeC b a with
    | true => rw [alikeC_symm h2] at h; cases h
    | false => rfl
theorem lastIn_get {z : Chg} : ∀ {l : List Chg}, lastIn z l → ∃ p : Nat, l[p]? = some z ∧ ∀ (q : Nat) (d : Chg), p < q → l[q]? = some d → alikeC z d = false
  | x :: r, h => by
    rcases h with ⟨rfl, h2⟩ | h
    · refine ⟨0, rfl, fun q d hq hd => ?_⟩
      obtain ⟨q, rfl⟩ : ∃ q', q = q' + 1 := ⟨q - 1, by omega⟩
      have hm : d ∈ r := List.mem_of_getElem? (by simpa using hd)
      have := List.any_eq_false.1 h2 d hm
      simpa using this
    · obtain ⟨p, h1, h2⟩ := lastIn_get h
      refine ⟨p + 1, by simpa using h1, fun q d hq hd => ?_⟩
      obtain ⟨q, rfl⟩ : ∃ q', q = q' + 1 := ⟨q - 1, by omega⟩
      exact h2 q d (by omega) (by simpa using hd)
/-- The place of the last change alike among the first j. -/
def LastAt (b : List Chg) (c : Chg) (j : Nat) (last : Int) : Prop :=
  (last = -1 ∧ ∀ (i : Nat) (d : Chg), i < j → b[i]? = some d → alikeC d c = false) ∨ ∃ (i : Nat) (d : Chg), i < j ∧ last = (i : Int) ∧ b[i]? = some d ∧ alikeC d c = true ∧ ∀ (i' : Nat) (d' : Chg), i < i' → i' < j → b[i']? = some d' → alikeC d' c = false
theorem LastAt.start (b : List Chg) (c : Chg) : LastAt b c 0 (-1) := .inl ⟨rfl, fun i d hi => by omega⟩
theorem LastAt.hit {b : List Chg} {c d : Chg} {j : Nat} {last : Int} (h : LastAt b c j last) (hd : b[j]? = some d) (ha : alikeC d c = true) : LastAt b c (j + 1) j :=
  .inr ⟨j, d, by omega, rfl, hd, ha, fun i' d' h1 h2 => by omega⟩
theorem LastAt.miss {b : List Chg} {c d : Chg} {j : Nat} {last : Int} (h : LastAt b c j last) (hd : b[j]? = some d) (ha : alikeC d c = false) : LastAt b c (j + 1) last := by
  have hx : ∀ d', b[j]? = some d' → alikeC d' c = false := fun d' h' => by
    rw [hd] at h'
    cases h'
    exact ha
  rcases h with ⟨h1, h2⟩ | ⟨i, e, h1, h2, h3, h4, h5⟩
  · refine .inl ⟨h1, fun i d' hi hd' => ?_⟩
    rcases Nat.lt_or_ge i j with h | h
    · exact h2 i d' h hd'
    · obtain rfl : i = j := by omega
      exact hx d' hd'
  · refine .inr ⟨i, e, by omega, h2, h3, h4, fun i' d' h6 h7 hd' => ?_⟩
    rcases Nat.lt_or_ge i' j with h | h
    · exact h5 i' d' h6 h hd'
    · obtain rfl : i' = j := by omega
      exact hx d' hd'
theorem LastAt.fin {b : List Chg} {c : Chg} {last : Int} (h : LastAt b c b.length last) (hc : lastIn c b) : ∃ i : Nat, last = (i : Int) ∧ b[i]? = some c := by
  obtain ⟨p, h1, h2⟩ := lastIn_get hc
  have hp := (List.getElem?_eq_some_iff.1 h1).1
  rcases h with ⟨_, h4⟩ | ⟨i, d, h3, h4, h5, h6, h7⟩
  · have := h4 p c hp h1
    rw [alikeC_self] at this
    cases this
  · rcases Nat.lt_trichotomy p i with h8 | h8 | h8
    · have := h2 i d h8 h5
      rw [alikeC_comm, h6] at this
      cases this
    · subst h8
      exact ⟨p, h4, h1⟩
    · have := h7 p c h8 hp h1
      rw [alikeC_self] at this
      cases this
theorem net_apart {l : List Chg} {i j : Nat} {a b : Chg} (ha : (netC l)[i]? = some a) (hb : (netC l)[j]? = some b) (h : i < j) : alikeC a b = false := by
  have h1 := netC_sorted l
  unfold SR at h1
  rw [List.pairwise_iff_getElem] at h1
  have hi := (List.getElem?_eq_some_iff.1 ha).1
  have hj := (List.getElem?_eq_some_iff.1 hb).1
  have h2 := h1 i j hi hj h
  rw [(List.getElem?_eq_some_iff.1 ha).2, (List.getElem?_eq_some_iff.1 hb).2] at h2
  cases h3 : alikeC a b with
  | false => rfl
  | true =>
    have := alikeC_iff.1 h3
    omega
theorem last_some (c : Chg) : ∀ {l : List Chg}, l.any (alikeC c) = true → ∃ z, lastIn z l ∧ alikeC z c = true
  | x :: r, h => by
    cases hr : r.any (alikeC c) with
    | true =>
      obtain ⟨z, h1, h2⟩ := last_some c hr
      exact ⟨z, .inr h1, h2⟩
    | false =>
      rw [List.any_cons, hr, Bool.or_false] at h
      refine ⟨x, .inl ⟨rfl, ?_⟩, alikeC_symm h⟩
      rw [List.any_eq_false]
      intro y hy hxy
      have h1 := List.any_eq_false.1 hr y hy
      exact h1 (alikeC_trans h hxy)
theorem names_net (l : List Chg) (c : Chg) : (netC l).any (fun d => alikeC d c) = l.any (alikeC c) := by
  rw [Bool.eq_iff_iff]
  constructor
  · intro h
    obtain ⟨d, h1, h2⟩ := List.any_eq_true.1 h
    exact List.any_eq_true.2 ⟨d, lastIn_mem (mem_netC.1 h1), alikeC_symm h2⟩
  · intro h
    obtain ⟨z, h1, h2⟩ := last_some c h
    exact List.any_eq_true.2 ⟨z, mem_netC.2 h1, h2⟩
theorem names_all {l : List Chg} {c : Chg} (h : c ∈ l) : (netC l).any (fun d => alikeC d c) = true := by
  rw [names_net]
  exact List.any_eq_true.2 ⟨c, h, alikeC_self c⟩
theorem lastIn_net {z : Chg} (l : List Chg) : lastIn z (netC l) ↔ lastIn z l := by
  rw [← mem_netC (l := l)]
  refine lastIn_apart ?_
  have h1 := netC_sorted l
  refine h1.imp fun {x y} h => ?_
  cases h3 : alikeC x y with
  | false => rfl
  | true =>
    have := alikeC_iff.1 h3
    omega
theorem net_net (l : List Chg) : netC (netC l) = netC l := (netC_eq (netC_sorted l) fun z => by rw [lastIn_net, mem_netC]).symm
theorem lastIn_append (z : Chg) : ∀ a b : List Chg, lastIn z (a ++ b) ↔ lastIn z b ∨ (lastIn z a ∧ b.any (alikeC z) = false)
  | [], b => by simp [lastIn]
  | x :: a, b => by
    have ih := lastIn_append z a b
    show (z = x ∧ (a ++ b).any (alikeC x) = false) ∨ lastIn z (a ++ b) ↔ lastIn z b ∨ (((z = x ∧ a.any (alikeC x) = false) ∨ lastIn z a) ∧ b.any (alikeC z) = false)
    rw [ih, List.any_append, Bool.or_eq_false_iff]
    constructor
    · rintro (⟨rfl, h1, h2⟩ | h | ⟨h1, h2⟩)
      · exact .inr ⟨.inl ⟨rfl, h1⟩, h2⟩
      · exact .inl h
      · exact .inr ⟨.inr h1, h2⟩
    · rintro (h | ⟨⟨rfl, h1⟩ | h1, h2⟩)
      · exact .inr (.inl h)
      · exact .inl ⟨rfl, h1, h2⟩
      · exact .inr (.inr ⟨h1, h2⟩)
theorem net_both (a b : List Chg) : netC (netC a ++ netC b) = netC (a ++ b) := by
  refine (netC_eq (netC_sorted (netC a ++ netC b)) fun z => ?_)
  rw [mem_netC, lastIn_append, lastIn_append, lastIn_net, lastIn_net]
  have h1 : (netC b).any (alikeC z) = b.any (alikeC z) := by
    rw [← names_net b z]
    congr 1
    funext d
    exact alikeC_comm z d
  rw [h1]
end Go.Proofs.YtgjknekoehfdfaaGreatDoor
