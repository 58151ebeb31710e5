/- Is there a k? plainly. slices.IndexFunc, ContainsFunc at osier/api.Value, walked, told by the place (printed by idxn.py). row.Valid and osierref02.Valid, walked. Texts while they are written; strings.Join of any list of texts. -/
import Derived.Test.YtgjknekoehfdfaaGreatDoorGb
import Derived.Test.YtgjknekoehfdfaaGreatDoorCh0Z
import Derived.Test.YtgjknekoehfdfaaGreatDoorLe
import Derived.Test.YtgjknekoehfdfaaGreatDoorGr
import Derived.Test.YtgjknekoehfdfaaGreatDoorShelfJ
import Derived.Shelf.Abstract
import Derived.Deep.RegionLaw
import Derived.Deep.RegionHeld3
import Derived.Lib.Join
namespace Go.Proofs.YtgjknekoehfdfaaGreatDoor
set_option linter.unusedVariables false
/-- What is told of the thing at a place. -/
def atP {α : Type} (l : List α) (f : α → Bool) (k : Nat) : Bool := match l[k]? with
  | some s => f s
  | none => false
theorem atP_some {α : Type} {l : List α} {f : α → Bool} {k : Nat} {x : α} (h : l[k]? = some x) : atP l f k = f x := by
  unfold atP
  rw [h]
theorem range_any {α : Type} (l : List α) (f : α → Bool) {n : Nat} (hn : n = l.length) : (List.range n).any (atP l f) = l.any f := by
  subst hn
  rw [Bool.eq_iff_iff]
  simp only [List.any_eq_true, List.mem_range]
  constructor
  · rintro ⟨k, hk, hp⟩
    rw [atP_some (List.getElem?_eq_getElem hk)] at hp
    exact ⟨_, List.getElem_mem hk, hp⟩
  · rintro ⟨x, hx, hp⟩
    obtain ⟨k, hk, rfl⟩ := List.getElem_of_mem hx
    exact ⟨k, hk, by rw [atP_some (List.getElem?_eq_getElem hk)]; exact hp⟩
theorem take_any_succ {α : Type} (p : α → Bool) {l : List α} {k : Nat} {x : α} (h : l[k]? = some x) : (l.take (k + 1)).any p = ((l.take k).any p || p x) := by
  rw [List.take_add_one, h]
  simp
end Go.Proofs.YtgjknekoehfdfaaGreatDoor
namespace Go.Proofs.YtgjknekoehfdfaaGreatDoor
open Go.RowKit
set_option linter.unusedVariables false

set_option maxHeartbeats 4000000 in
set_option maxRecDepth 100000 in
theorem indexN_Val (g : Nat) (lb : Array Value) (eg : ∀ args w, (callFunc g args).run Tryz.prog w = .ok (.enter g args) w) (p : Nat → Bool) (w : World) (v : Value) (xs : List (List Value)) (h : RowAt w v 3 xs) (hl : ∀ x ∈ xs, x.length = 3)
    (hf : ∀ (W : World) (k : Nat) (x : List Value), Below w.heap.size w W → xs[k]? = some x → Calls Tryz.prog g (#[.agg x.toArray] ++ lb) W fun e W' => e = .returned (.bool (p k)) ∧ Below W.heap.size W W') :
    Calls Tryz.prog 201 #[v, .func (.func g) #[] lb] w fun e w' => (∃ q : Int, e = .returned (.int .i64 q) ∧ decide (0 ≤ q) = (List.range xs.length).any p) ∧ Below w.heap.size w w' := by
  obtain ⟨ad, cap, rfl, hnc, hcm⟩ := h.form
  have hln := h.len
  have HR := Lib.hid h
  have HL := Lib.hid hl
  have HF := Lib.hid hf
  unfold maxLen at hcm
  generalize hn : xs.length = n at *
  have HN := Lib.hid hn
  clear h hl hf hn
  go_enter Tryz.func201, Tryz.ntmps201
  go_wp2_with fail
  go_loopw [5, 8] (fun _ i wr => ∃ k : Nat, k ≤ n ∧ i = .int .i64 k ∧ Hid (Below w.heap.size w wr) ∧ Hid (∀ j, j < k → p j = false)) (fun _ i _ => n - (intOf i).toNat)
  case atStart => exact ⟨0, Nat.zero_le _, rfl, Lib.hid (Below.refl _ _), Lib.hid (fun j hj => by omega)⟩
  case round =>
    obtain ⟨k, hk, rfl, HB, HP⟩ := hrel
    by_cases hlt : k < n
    · obtain ⟨x, hx⟩ : ∃ x, xs[k]? = some x := ⟨xs[k]'(by rw [HN.out]; exact hlt), List.getElem?_eq_getElem (by rw [HN.out]; exact hlt)⟩
      have hm : x ∈ xs := List.mem_of_getElem? hx
      obtain ⟨b, off, cap', hv, _, _, hbl, hce⟩ := (HR.out.keep HB.out).get hx
      rw [HN.out] at hv
      simp only [Value.slice.injEq, true_and] at hv
      obtain ⟨rfl, rfl⟩ := hv
      obtain ⟨e0, e1, e2, rfl⟩ := len3 (HL.out x hm)
      have q0 := hce 0 e0 rfl
      have q1 := hce 1 e1 rfl
      have q2 := hce 2 e2 rfl
      simp only [Nat.add_zero] at q0 q1 q2
      have hcall := HF.out wr k _ HB.out hx
      clear hce hm hx
      cases hq : p k with
      | true =>
        rw [hq] at hcall
        have HC := Lib.hid hcall
        have HQ := Lib.hid hq
        clear hcall hq
        go_wp2_with fail
        refine HC.out.mono ?_
        rintro e w' ⟨rfl, hb'⟩
        have HB' := Lib.hid hb'
        clear hb'
        go_wp2_with fail
        go_ret
        refine ⟨⟨k, rfl, ?_⟩, HB.out.trans (HB'.out.mono HB.out.size)⟩
        rw [decide_eq_true (Int.natCast_nonneg k)]
        exact (List.any_eq_true.2 ⟨k, List.mem_range.2 hlt, HQ.out⟩).symm
      | false =>
        rw [hq] at hcall
        have HC := Lib.hid hcall
        have HQ := Lib.hid hq
        clear hcall hq
        go_wp2_with fail
        refine HC.out.mono ?_
        rintro e w' ⟨rfl, hb'⟩
        have HB' := Lib.hid hb'
        clear hb'
        go_wp2_with fail
        go_roundw
        case rel =>
          refine ⟨k + 1, by omega, by go_num, Lib.hid (HB.out.trans (HB'.out.mono HB.out.size)), Lib.hid (fun j hj => ?_)⟩
          rcases Nat.lt_or_ge j k with h1 | h1
          · exact HP.out j h1
          · obtain rfl : j = k := by omega
            exact HQ.out
        case measure => simp [intOf]; omega
    · obtain rfl : k = n := by omega
      go_wp2_with fail
      go_ret
      refine ⟨⟨-1, rfl, ?_⟩, HB.out⟩
      rw [show decide ((0 : Int) ≤ -1) = false from by decide]
      refine (List.any_eq_false.2 fun j hj => ?_).symm
      rw [HP.out j (List.mem_range.1 hj)]
      decide

set_option maxHeartbeats 4000000 in
set_option maxRecDepth 100000 in
theorem containsN_Val (g : Nat) (lb : Array Value) (eg : ∀ args w, (callFunc g args).run Tryz.prog w = .ok (.enter g args) w) (p : Nat → Bool) (w : World) (v : Value) (xs : List (List Value)) (h : RowAt w v 3 xs) (hl : ∀ x ∈ xs, x.length = 3)
    (hf : ∀ (W : World) (k : Nat) (x : List Value), Below w.heap.size w W → xs[k]? = some x → Calls Tryz.prog g (#[.agg x.toArray] ++ lb) W fun e W' => e = .returned (.bool (p k)) ∧ Below W.heap.size W W') :
    Calls Tryz.prog 141 #[v, .func (.func g) #[] lb] w fun e w' => e = .returned (.bool ((List.range xs.length).any p)) ∧ Below w.heap.size w w' := by
  have HI := Lib.hid (indexN_Val g lb eg p w v xs h hl hf)
  clear h hl hf
  generalize (List.range xs.length).any p = R at *
  go_enter Tryz.func141, Tryz.ntmps141
  go_wp2_with fail
  refine HI.out.mono ?_
  rintro e w' ⟨⟨q, rfl, hq⟩, hb'⟩
  have HB' := Lib.hid hb'
  clear hb'
  go_wp2_with fail
  go_ret
  exact ⟨by first | rfl | simp, HB'.out⟩
end Go.Proofs.YtgjknekoehfdfaaGreatDoor
namespace Go.Proofs.YtgjknekoehfdfaaGreatDoor
open Go.RowKit
set_option linter.unusedVariables false

set_option maxHeartbeats 1000000 in
set_option maxRecDepth 100000 in
theorem rowClo_any (w : World) (u : Vl) :
    Calls Tryz.prog 142 #[.agg u.cells.toArray] w fun e w' => e = .returned (.bool (badV u)) ∧ Below w.heap.size w w' := by
  have hnot : ∀ (x : Bool) (w : World), (Op.unary .not (.bool x)).run Tryz.prog w = .ok (.bool (!x)) w := fun _ _ => rfl
  obtain ⟨k, n, s⟩ := u
  unfold badV Vl.cells
  have hv := fun W => valid_any k n ⟨s.toArray⟩ W
  have hss : (⟨s.toArray⟩ : ByteArray).data.toList = s := by simp
  rw [hss] at hv
  have hb0 : Below w.heap.size w (w.alloc (.cells #[.int .i64 k, .int .i64 n, .string ⟨s.toArray⟩] 74)) := balloc (Below.refl _ _) _
  have hb1 := fun c : Array Value => balloc hb0 (.cells c 74)
  show Calls _ _ _ _ fun e w' => e = .returned (.bool (!validB k n s)) ∧ _
  generalize validB k n s = vb at *
  have HV := Lib.hid hv
  have HB1 := Lib.hid hb1
  clear hv hss hb0 hb1
  go_enter Tryz.func142, Tryz.ntmps142
  go_wp2_with fail
  refine (HV.out _).mono ?_
  rintro e w1 ⟨rfl, rfl⟩
  go_wp2_with fail
  go_ret
  exact ⟨rfl, HB1.out _⟩

set_option maxHeartbeats 2000000 in
set_option maxRecDepth 100000 in
theorem rowValid_any (w : World) (rv : Value) (l : List Vl) (h : RowAt w rv 3 (l.map Vl.cells)) :
    Calls Tryz.prog 79 #[rv] w fun e w' => e = .returned (.bool (rowB l)) ∧ Below w.heap.size w w' := by
  have hnot : ∀ (x : Bool) (w : World), (Op.unary .not (.bool x)).run Tryz.prog w = .ok (.bool (!x)) w := fun _ _ => rfl
  have hcf := containsN_Val 142 #[] (enters_of Tryz.func142 (by kernel_rfl) rfl) (atP l badV) w rv (l.map Vl.cells) h (vl_len _) (fun W k x _ hx => by
    rw [List.getElem?_map] at hx
    cases hs : l[k]? with
    | none => rw [hs] at hx; simp at hx
    | some s =>
      rw [hs] at hx
      simp only [Option.map_some, Option.some.injEq] at hx
      subst hx
      rw [atP_some hs]
      exact rowClo_any W s)
  rw [range_any l _ (List.length_map _)] at hcf
  have hl := h.len
  obtain ⟨ad, cap, rfl, hnc, hcm⟩ := h.form
  unfold rowB
  rw [List.length_map] at *
  have HC := Lib.hid hcf
  clear hcf h
  generalize l.any badV = bv at *
  generalize l.length = n at *
  by_cases h30 : n ≤ 30
  · have hd : (n : Int) ≤ 30 := by omega
    rw [decide_eq_true h30]
    go_enter Tryz.func79, Tryz.ntmps79
    go_wp2_with fail
    refine HC.out.mono ?_
    rintro e w2 ⟨rfl, hb⟩
    have HB := Lib.hid hb
    clear hb
    go_wp2_with fail
    go_ret
    exact ⟨by simp, HB.out⟩
  · have hd : ¬ ((n : Int) ≤ 30) := by omega
    rw [decide_eq_false h30]
    clear h30
    go_enter Tryz.func79, Tryz.ntmps79
    go_wp2_with fail
    go_ret
    exact ⟨by simp, Below.refl _ _⟩

set_option maxHeartbeats 4000000 in
set_option maxRecDepth 100000 in
theorem refRowValid_any (w : World) (rv : Value) (l : List Vl) (h : RowAt w rv 3 (l.map Vl.cells)) :
    Calls Tryz.prog 147 #[rv] w fun e w' => e = .returned (.bool (rowB l)) ∧ Below w.heap.size w w' := by
  have hnot : ∀ (x : Bool) (w : World), (Op.unary .not (.bool x)).run Tryz.prog w = .ok (.bool (!x)) w := fun _ _ => rfl
  have HVD := Lib.hid (fun W (u : Vl) => refValid_any u.k u.n ⟨u.t.toArray⟩ W)
  have hl := h.len
  obtain ⟨ad, cap, rfl, hnc, hcm⟩ := h.form
  unfold maxLen at hcm
  rw [List.length_map] at *
  have HR := Lib.hid h
  have hres : rowB l = (decide (l.length ≤ 30) && !l.any badV) := rfl
  rw [hres]
  clear h hres
  generalize hN : l.length = n at *
  have HN := Lib.hid hN
  clear hN
  by_cases h30 : n ≤ 30
  · have hd : ¬ ((30 : Int) < (n : Int)) := by omega
    have hd2 : (n : Int) ≤ 30 := by omega
    rw [decide_eq_true h30]
    go_enter Tryz.func147, Tryz.ntmps147
    go_wp2_with fail
    go_loopw [3] (fun i wr => ∃ k : Nat, k ≤ n ∧ i = .int .i64 k ∧ Hid ((l.take k).any badV = false) ∧ Hid (Below w.heap.size w wr)) (fun i _ => n - (intOf i).toNat)
    case atStart => exact ⟨0, Nat.zero_le _, rfl, Lib.hid rfl, Lib.hid (Below.refl _ _)⟩
    case round =>
      obtain ⟨k, hk, rfl, HP, BW⟩ := hrel
      by_cases hlt : k < n
      · obtain ⟨u, hu⟩ : ∃ u, l[k]? = some u := ⟨l[k]'(by rw [HN.out]; exact hlt), List.getElem?_eq_getElem (by rw [HN.out]; exact hlt)⟩
        obtain ⟨b, off, cap', hv, _, _, hbl, hce⟩ := (HR.out.keep BW.out).get (i := k) (x := u.cells) (by simp [hu])
        simp only [List.length_map, HN.out, Value.slice.injEq, true_and] at hv
        obtain ⟨rfl, rfl⟩ := hv
        have q0 := hce 0 _ rfl
        have q1 := hce 1 _ rfl
        have q2 := hce 2 _ rfl
        simp only [Nat.add_zero] at q0
        have hdk : decide ((k : Int) < 0) = false := by simp
        have hdn : decide ((n : Int) ≤ (k : Int)) = false := by simp; omega
        have hvd := fun W => HVD.out W u
        obtain ⟨vb, hvb⟩ : ∃ vb, validB u.k u.n u.t = vb := ⟨_, rfl⟩
        rw [show validB u.k u.n (⟨u.t.toArray⟩ : ByteArray).data.toList = vb from hvb] at hvd
        have HVT := Lib.hid hvd
        have hst := take_any_succ badV hu
        rw [HP.out, show badV u = !vb by unfold badV; rw [hvb]] at hst
        have HST := Lib.hid hst
        have HMU := Lib.hid (List.mem_of_getElem? hu)
        have HVB := Lib.hid hvb
        clear hce hvd hvb hst hu
        cases vb with
        | true =>
          go_wp2_with fail
          refine (HVT.out _).mono ?_
          rintro e w2 ⟨rfl, hb⟩
          have HB := Lib.hid (BW.out.trans (hb.mono BW.out.size))
          clear hb
          go_wp2_with fail
          go_roundw
          case rel => exact ⟨k + 1, by omega, by go_num, Lib.hid (by rw [HST.out]; rfl), HB⟩
          case measure => simp [intOf]; omega
        | false =>
          have hany : l.any badV = true := List.any_eq_true.2 ⟨u, HMU.out, by unfold badV; rw [HVB.out]; rfl⟩
          have HANY := Lib.hid hany
          clear hany
          go_wp2_with fail
          refine (HVT.out _).mono ?_
          rintro e w2 ⟨rfl, hb⟩
          have HB := Lib.hid (BW.out.trans (hb.mono BW.out.size))
          clear hb
          go_wp2_with fail
          go_ret
          exact ⟨by rw [HANY.out]; rfl, HB.out⟩
      · obtain rfl : k = n := by omega
        have hp := HP.out
        rw [List.take_of_length_le (by rw [HN.out]; exact Nat.le_refl _)] at hp
        have HPP := Lib.hid hp
        clear hp
        go_wp2_with fail
        go_ret
        exact ⟨by rw [HPP.out]; rfl, BW.out⟩
  · have hd : (30 : Int) < (n : Int) := by omega
    have hd2 : ¬ ((n : Int) ≤ 30) := by omega
    rw [decide_eq_false h30]
    clear h30
    go_enter Tryz.func147, Tryz.ntmps147
    go_wp2_with fail
    go_ret
    exact ⟨by simp, Below.refl _ _⟩
end Go.Proofs.YtgjknekoehfdfaaGreatDoor
namespace Go.Proofs.YtgjknekoehfdfaaGreatDoor
open Go.RowKit
set_option linter.unusedVariables false

theorem Tryz.infoTx9 : (Tryz.prog.info? 9).map (fun i => (i.zero, i.size, i.bytes)) = some (some (.string ⟨#[]⟩), 1, 16) := by kernel_rfl

/-- Texts while they are written. -/
def rowG {α : Type} (f : α → List UInt8) (cs : List α) (k : Nat) : List (List UInt8) := (cs.take k).map f ++ (cs.drop k).map fun _ => []
theorem rowG_len {α : Type} (f : α → List UInt8) (cs : List α) (k : Nat) : (rowG f cs k).length = cs.length := by
  unfold rowG
  simp
  omega
theorem rowG_set {α : Type} (f : α → List UInt8) {cs : List α} {k : Nat} {c : α} (h : cs[k]? = some c) : (rowG f cs k).set k (f c) = rowG f cs (k + 1) := by
  have hk := (List.getElem?_eq_some_iff.1 h).1
  have hl : ((cs.take k).map f).length = k := by rw [List.length_map, List.length_take]; omega
  have e1 : (cs.take (k + 1)).map f = (cs.take k).map f ++ [f c] := by
    rw [List.take_add_one, h]
    simp
  have e2 : cs.drop k = cs[k] :: cs.drop (k + 1) := List.drop_eq_getElem_cons hk
  unfold rowG
  rw [e1, e2, List.map_cons, List.set_append_right _ _ (by omega), hl, Nat.sub_self, List.set_cons_zero, List.append_assoc]
  rfl
theorem emptiesG {α : Type} : ∀ l : List α, List.replicate l.length [Value.string ⟨#[]⟩] = (l.map fun _ => ([] : List UInt8)).map strC
  | [] => rfl
  | _ :: l => by
    simp only [List.length_cons, List.replicate_succ, List.map_cons]
    rw [emptiesG l]
    rfl
theorem rowG_zero {α : Type} (f : α → List UInt8) (cs : List α) : (madeCells #[.string ⟨#[]⟩] cs.length).toList = ((rowG f cs 0).map strC).flatten := by
  have h := made_rows [.string ⟨#[]⟩] cs.length (by simp)
  rw [emptiesG cs, show cs.length * ([Value.string ⟨#[]⟩] : List Value).length = cs.length from Nat.mul_one _] at h
  unfold rowG
  simp only [List.take_zero, List.map_nil, List.drop_zero, List.nil_append]
  exact h
theorem rowG_all {α : Type} (f : α → List UInt8) (cs : List α) : rowG f cs cs.length = cs.map f := by
  unfold rowG
  simp
theorem strG1 (l : List (List UInt8)) : ∀ x ∈ l.map strC, x.length = 1 := by
  intro x hx
  simp at hx
  obtain ⟨t, _, rfl⟩ := hx
  rfl
/-- A text stored into a row of the call's own. -/
theorem own_setTextG {w : World} {g k n cap base : Nat} {l : List (List UInt8)} {s : List UInt8} (hown : w.ownsRow base 9 1 (.slice (some ⟨g, 0, none⟩) n cap) n (l.map strC).flatten) (hn : l.length = n) (hk : k < n) :
    (w.setCell ⟨g, k, none⟩ (.string ⟨s.toArray⟩)).ownsRow base 9 1 (.slice (some ⟨g, 0, none⟩) n cap) n ((l.set k s).map strC).flatten ∧ Mod (fun j => j = g) w (w.setCell ⟨g, k, none⟩ (.string ⟨s.toArray⟩)) := by
  have h := own_setCells (cells := [.string ⟨s.toArray⟩]) hown (strG1 l) (by rw [List.length_map, hn]) hk (by intro v hv; simp at hv; subst hv; rfl)
  have e : w.setCells g (k * ([Value.string ⟨s.toArray⟩] : List Value).length) [.string ⟨s.toArray⟩] = w.setCell ⟨g, k, none⟩ (.string ⟨s.toArray⟩) := by
    simp [World.setCells]
  rw [e] at h
  rw [List.map_set]
  exact ⟨h.1, h.2.1⟩
theorem Mod.ownG {b g : Nat} {w0 w w' : World} (hz : w0.heap.size = g) (h : Below g w0 w) (hm : Mod (fun k => k = b) w w') (hb : g ≤ b) : Below g w0 w' := by
  subst hz
  exact Mod.own h hm hb
theorem Below.allocG {g : Nat} {w0 w : World} (hz : w0.heap.size = g) (h : Below g w0 w) (o : Obj) : Below g w0 (w.alloc o) := by
  subst hz
  exact balloc h o
theorem ownG_strs {base : Nat} {w : World} {v : Value} {n : Nat} {l : List (List UInt8)} (h : w.ownsRow base 9 1 v n (l.map strC).flatten) (hn : l.length = n) (hs : n ≤ 8796093022208) : StrsAt w v l :=
  RowAt.ofOwn h (by rw [List.length_map, hn]) (strG1 l) (by rw [List.length_map, hn]; exact hs)
theorem textsG (l : List (List UInt8)) : (l.map fun s => (⟨s.toArray⟩ : ByteArray)).map (·.data.toList) = l := by
  rw [List.map_map]
  conv => rhs; rw [← List.map_id l]
  apply List.map_congr_left
  intro a _
  simp
/-- strings.Join of any list of texts. -/
theorem join_any (w : World) (v : Value) (l : List (List UInt8)) (sep : ByteArray) (h : StrsAt w v l) (hj : (Lib.join l sep.data.toList).length ≤ 140737488355328) :
    Calls Tryz.prog 112 #[v, .string sep] w fun e w' => e = .returned (.string ⟨(Lib.join l sep.data.toList).toArray⟩) ∧ Below w.heap.size w w' := by
  have hll := h.len
  by_cases h0 : l = []
  · subst h0
    obtain ⟨ad, cap, rfl, _, _⟩ := h.form
    refine (Tryz.strings_Join_none ad cap sep w).mono ?_
    rintro e w' ⟨rfl, rfl⟩
    exact ⟨by rw [Lib.join_nil], Below.refl _ _⟩
  · have hl : 0 < l.length := List.length_pos_iff.2 h0
    obtain ⟨b, off, cap, rfl, hc, hm, hb, _⟩ := h.get (i := 0) (List.getElem?_eq_getElem hl)
    have hj2 := Tryz.strings_Join b off cap (l.map fun s => (⟨s.toArray⟩ : ByteArray)) sep w (fun j x hx => by
      rw [List.getElem?_map] at hx
      cases hs : l[j]? with
      | none => rw [hs] at hx; simp at hx
      | some s =>
        rw [hs] at hx
        simp only [Option.map_some, Option.some.injEq] at hx
        subst hx
        obtain ⟨b', off', cap', hv, _, _, _, hcell⟩ := h.get hs
        simp only [Value.slice.injEq, Option.some.injEq, Addr.mk.injEq, and_true, true_and] at hv
        obtain ⟨⟨rfl, rfl⟩, rfl⟩ := hv
        exact hcell) hb (by rw [List.length_map]; omega) (by rw [List.length_map]; exact hc) (by rw [textsG]; exact hj)
    rw [textsG, List.length_map] at hj2
    exact hj2
end Go.Proofs.YtgjknekoehfdfaaGreatDoor
