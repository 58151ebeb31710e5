/- append of one list of changes of the call's own to another. -/
import Derived.Test.YtgjknekoehfdfaaGreatDoorNw
import Derived.Deep.AppendLies
import Derived.Laws.OwnMore
namespace Go.Proofs.YtgjknekoehfdfaaGreatDoor
open Go.RowKit
set_option linter.unusedVariables false

theorem run_append_zeroC {P : Program} {w : World} (base : Nat) (t ty e : TypeId) (i : TypeInfo) (size : Nat) (ht : P.underlying t = some (.slice e)) (hi : P.info? e = some i)
    (v : Value) (n : Nat) (xs : List Value) (hown : w.ownsRow base e size v n xs) (a : Option Addr) (c : Nat) :
    (Builtin.append_ #[t, t] ty #[v, .slice a 0 c]).run P w = .ok v w := by
  cases a with
  | none =>
    rcases hown.2 with ⟨rfl, rfl⟩ | ⟨g, cap, cur, rfl, _, _, hnc, _⟩
    · simp [Builtin.append_, run_underlying ht, sizeOf, typeInfo, hi, Builtin.lenOf, Builtin.firstCells]
    · simp [Builtin.append_, run_underlying ht, sizeOf, typeInfo, hi, Builtin.lenOf, Builtin.firstCells, hnc, storeCells]
  | some a =>
    rcases hown.2 with ⟨rfl, rfl⟩ | ⟨g, cap, cur, rfl, _, _, hnc, _⟩
    · simp [Builtin.append_, run_underlying ht, sizeOf, typeInfo, hi, Builtin.lenOf, Builtin.firstCells, loadCells, loadCellsFrom]
    · simp [Builtin.append_, run_underlying ht, sizeOf, typeInfo, hi, Builtin.lenOf, Builtin.firstCells, hnc, storeCells, loadCells, loadCellsFrom]

/-- append(a, b...), a and b lists of changes of the call's own. -/
theorem wpList_append_chgs {ops : Array Oper} {rest : List Oper} {o : Oper} {a : Act} {w : World} {Q : Exit → Act → World → Prop} (hgd : o.guard = none) (s x : Operand)
    (ho : o.op = .call { callee := .builtin .append, args := #[s, x], argTypes := #[22, 22] })
    (B B2 : Nat) (va : Option Addr) (n vc : Nat) (ub : Option Addr) (m uc : Nat) (l1 l2 : List Chg) (hs : a.eval s = .slice va n vc) (hx : a.eval x = .slice ub m uc) (h1 : ChgsOwn B w (.slice va n vc) l1) (h2 : ChgsOwn B2 w (.slice ub m uc) l2)
    (hn : l1.length = n) (hm : l2.length = m) (hB : B ≤ B2) (hb : (n + m) * 48 ≤ 140737488355328) (hBw : B ≤ w.heap.size)
    (h : ∀ (ua : Option Addr) (c : Nat) (w' : World), ChgsOwn B w' (.slice ua (n + m) c) (l1 ++ l2) → Below B w w' → wpList Tryz.prog ops Q rest (a.put o.dst (.slice ua (n + m) c)) w') : wpList Tryz.prog ops Q (o :: rest) a w := by
  obtain ⟨ic, hic, hc0, hc1, hc2⟩ := info_parts Tryz.infoCg
  obtain ⟨r1, o1, a1⟩ := h1
  obtain ⟨r2, o2, a2⟩ := h2
  rw [hn] at o1
  rw [hm] at o2
  rcases Nat.eq_zero_or_pos m with h0 | h0
  · subst h0
    have hl : l2 = [] := List.eq_nil_of_length_eq_zero hm
    subst hl
    refine wpList_plain hgd fun K hK => ?_
    have hrun := run_append_zeroC (P := Tryz.prog) B 22 o.type 30 ic 3 Tryz.underlying22 hic _ n _ o1 ub uc
    unfold Oper.wp
    simp [execOp, ho, resolve, invoke, builtin, hs, hx, hrun, Result.andThen]
    refine hK _ _ (h va vc w ⟨r1, ?_, ?_⟩ (Below.refl _ _))
    · rw [List.append_nil, hn]
      exact o1
    · rw [List.append_nil]
      exact a1
  · rcases o2.2 with ⟨h3, _⟩ | ⟨g, cap, cur, hv, hb2, hg, hnc, hcm, hcz, hct⟩
    · simp only [Value.slice.injEq] at h3
      omega
    · simp only [Value.slice.injEq] at hv
      obtain ⟨rfl, _, rfl⟩ := hv
      have hrl := a2.length
      rw [hm] at hrl
      have h33 : ∀ x ∈ r2, x.length = 3 := by
        intro y hy
        obtain ⟨x, _, rv, rfl, _⟩ := all2_mem a2 y hy
        rfl
      have hfl3 := flatten_len h33
      rw [hrl] at hfl3
      have hone : ∀ u ∈ r2.flatten, u.oneCell' = true := by
        intro u hu
        obtain ⟨y, hy, hu⟩ := List.mem_flatten.1 hu
        obtain ⟨x, _, rv, rfl, hrv⟩ := all2_mem a2 y hy
        obtain ⟨ua, uc, rfl⟩ := own_sl hrv
        simp only [List.mem_cons, List.not_mem_nil, or_false] at hu
        rcases hu with rfl | rfl | rfl <;> rfl
      have hnews : ∀ (j : Nat) u, r2.flatten[j]? = some u → w.cell? ((⟨g, 0, none⟩ : Addr).add j) = some u := by
        intro j u hu
        have hj := (List.getElem?_eq_some_iff.1 hu).1
        have e1 : (⟨g, 0, none⟩ : Addr).add j = ⟨g, j, none⟩ := by
          unfold Addr.add
          split <;> simp_all
        rw [e1, o2.cellAt j (by omega), hu]
      refine wpList_append_lies _ hgd s x 22 ho B 30 ic (.agg #[.bool false, .string ⟨#[]⟩, .slice none 0 0]) 3 48 Tryz.underlying22 hic hc0 hc1 hc2 rfl (by decide) (.slice va n vc) n _ hs o1 ⟨g, 0, none⟩ m uc r2.flatten hx hfl3 hnews hone h0 (by unfold maxLen; omega) hb hBw _ rfl ?_
      intro g8 cap8 w' hown8 hgrow8 hat8 hlt8
      have hch : ChgsOwn B w (.slice va n vc) l1 := ⟨r1, by rw [hn]; exact o1, a1⟩
      have kv := KV.grown hgrow8 hch
      refine h _ _ _ ⟨r1 ++ r2, ?_, ?_⟩ ⟨hgrow8.os, hgrow8.tape, hgrow8.output, hgrow8.size, fun k hk => hgrow8.block k (by omega) fun e => ?_⟩
      · rw [List.length_append, hn, hm, List.flatten_append]
        exact hown8
      · exact all2_app (a1.mono fun b c hh => hh.kv kv) (a2.mono fun b c hh => (hh.low hB).kv kv)
      · have := (hch.block e.symm).1
        omega
end Go.Proofs.YtgjknekoehfdfaaGreatDoor
