/- slices.Sorted over maps.Keys of change.Net's map, by the library's contracts. change.Net: a round of its first loop in memory. A map from texts to numbers that the call makes, told by the list of its keys and what stands at each. change.Net: its second loop in memory; the names in their order. change.Net, walked: its first loop. -/
import Derived.Test.YtgjknekoehfdfaaGreatDoorNv
import Derived.Test.YtgjknekoehfdfaaGreatDoorGb
import Derived.Test.YtgjknekoehfdfaaGreatDoorShelfN
import Derived.Test.YtgjknekoehfdfaaGreatDoorIv
import Derived.Shelf.SlIter.Nil
import Derived.Shelf.SlIter.Sorted
import Derived.Shelf.SortM.Plain
import Derived.Shelf.SortM.SortNone
import Derived.Maps.OwnOps
import Derived.Maps.OwnSet
import Derived.Deep.RegionLaw
namespace Go.Proofs.YtgjknekoehfdfaaGreatDoor
open Go.RowKit Go.Maps Go.Sort Go.Shelf
set_option linter.unusedVariables false

theorem sortsIn (m : Nat) : AnyZ.SortsIn Tryz.prog Tryz.sortedN_ren Fence.wide m :=
  ⟨fun blk off cap ss W hH hblk hsz => callsIn_wide.2 (AnyM.slices_Sort_string Tryz.sortN blk off cap ss W hH hblk hsz),
   fun p cap W => callsIn_wide.2 (AnyM.slices_Sort_string_none Tryz.sortN p cap W)⟩
theorem keysN_any (b : Nat) (w : World) : Calls Tryz.prog 46 #[.map (some b)] w fun e w' => e = .returned (.func (.func 119) #[] #[.pointer (some ⟨w.heap.size, 0, none⟩)]) ∧ w' = w.alloc (.cells #[.map (some b)] 80) :=
  (callsIn_wide (n := 5)).1 (AnyZ.keys_in Tryz.keysN Fence.wide 5 trivial rfl (some b) w)
set_option maxRecDepth 100000 in
theorem sortedN_any (w : World) (b nn : Nat) (D : DataW Unit) (hown : w.ownsMap Tryz.prog 9 sliceR b nn D) (hmax : Maps.size D ≤ 4398046511104) :
    Calls Tryz.prog 45 #[.func (.func 119) #[] #[.pointer (some ⟨w.heap.size, 0, none⟩)]] (w.alloc (.cells #[.map (some b)] 80)) fun e w' =>
      ∃ (v : Value) (ss : List (List UInt8)), e = .returned v ∧ ss.Perm (strKeys D) ∧ w'.ownsRow w.heap.size 9 1 v ss.length ((ss.mergeSort (fun x y => decide (x ≤ y))).map encStr) ∧ Below w.heap.size w w' := by
  have hbl := hown.lt
  have hseq : SeqGives Fence.wide 2 Tryz.prog 119 #[.pointer (some ⟨w.heap.size, 0, none⟩)] encStr (fun ss => ss.Perm (strKeys D)) (Maps.size D) (w.alloc (.cells #[.map (some b)] 80)) :=
    AnyZ.keys_gives (ρ := Tryz.keysN_ren) { Tryz.keysN with } Fence.wide _ trivial rfl (by omega) w.heap.size b nn D _ (by simp) (by simp) (by
      obtain ⟨es, clock, hb, Ft, hs, hD⟩ := hown
      exact ⟨es, clock, (Below.heap_alloc _ _ b hbl).trans hb, Ft, hs, hD⟩)
  have cS := AnyZ.sorted_in Tryz.sortedN Fence.wide 5 trivial trivial trivial trivial rfl (by omega) (sortsIn _) (enters_of Tryz.func118 (by kernel_rfl) rfl) 119 #[.pointer (some ⟨w.heap.size, 0, none⟩)] trivial (enters_of Tryz.func119 (by kernel_rfl) rfl) _ _ (by unfold maxLen; omega) (by omega) _ hseq
  change CallsIn _ _ Tryz.prog 45 _ _ _ at cS
  refine ((callsIn_wide (n := 5)).1 cS).mono ?_
  rintro e w' ⟨v, ss, rfl, hS, hrow, _, hb⟩
  exact ⟨v, ss, rfl, hS, ownsRow_base_a hrow (by simp), balloc (Below.refl _ w) _ |>.trans (hb.mono (by simp))⟩
end Go.Proofs.YtgjknekoehfdfaaGreatDoor
namespace Go.Proofs.YtgjknekoehfdfaaGreatDoor
open Go.RowKit Go.Maps
set_option linter.unusedVariables false

/-- 'm[k]' (without 'ok') whatever the elements. -/
theorem wpList_lookup_own {H : Type} {P : Program} (w : World) {ops : Array Oper} {rest : List Oper} {o : Oper} {a : Act} {Q : Exit → Act → World → Prop}
    (hg : o.guard = none) (m x : Operand) (t : TypeId) (hop : o.op = Op.lookup t m x false)
    (k e : TypeId) (K : Keyed P k) (ht : P.underlying t = some (.map k e)) (R : Value → Option (DataW H × List MemPlace)) {z : Value} (hz : (zeroValue e).run P w = .ok z w) (zd : DataW H) (zp : List MemPlace) (hzd : R z = some (zd, zp)) (b n : Nat) (D : DataW H)
    (hm : a.eval m = .map (some b)) (hown : w.ownsMap P k R b n D) (key : Value) (kl : Lit) (hx : a.eval x = key) (hkey : keyOf P k key = some kl)
    (hK : ∀ v ps, R v = some (D.atKey kl zd, ps) → wpList P ops Q rest (a.put o.dst v) w) :
    wpList P ops Q (o :: rest) a w := by
  refine wpList_plain hg fun K' hK' => ?_
  obtain ⟨v, ps, hrun, hv⟩ := hown.lookup K ht hz hzd hkey
  unfold Oper.wp
  simp [execOp, hop, hm, hx, hrun, Result.andThen]
  exact hK' _ _ (hK v ps hv)
theorem zeroChgs (w : World) : (zeroValue 22).run Tryz.prog w = .ok (.slice none 0 0) w := by kernel_rfl
theorem take_succ_of {l : List Chg} {k : Nat} {c : Chg} (h : l[k]? = some c) : l.take (k + 1) = l.take k ++ [c] := by
  rw [List.take_add_one, h]
  rfl
/-- The box of a change that is read anew behind calls and stores elsewhere. -/
theorem blk_mod {w w' : World} {g : Nat} {t : TypeId} {cs : Array Value} {F : Nat → Prop} (h : Blk w g t cs) (hm : Mod F w w') (hn : ¬ F g) : Blk w' g t cs := (hm.block g h.lt hn).trans h

set_option maxHeartbeats 2000000 in
set_option maxRecDepth 100000 in
/-- slices.DeleteFunc as a round calls it. -/
theorem netDel_any (w0 W : World) (bc : Nat) (c : Chg) (rv v : Value) (M : List Chg) (hW : Below w0.heap.size w0 W) (hb : Blk W bc 30 #[.bool c.add, .string ⟨c.rel.toArray⟩, rv]) (hrv : RowAt w0 rv 3 (c.row.map Vl.cells)) (hv : ChgsOwn w0.heap.size W v M) (hM : M.length ≤ 8796093022208)
    (hr : ∀ d ∈ M, d.row.length ≤ 4398046511104) (hne : ∀ g, v.ownBlock = some g → g ≠ bc) :
    Calls Tryz.prog 43 #[v, .func (.func 41) #[] #[.pointer (some ⟨bc, 0, none⟩)]] W fun e w' => ∃ v', e = .returned v' ∧ ChgsOwn w0.heap.size w' v' (M.filter fun d => !decide (cmpRow c.row d.row = 0)) ∧ v'.ownBlock = v.ownBlock ∧ Mod (fun j => v.ownBlock = some j) W w' ∧ MT 0 [30] W w' := by
  refine deleteC_any 41 #[.pointer (some ⟨bc, 0, none⟩)] (enters_of Tryz.func41 (by kernel_rfl) rfl) (fun d => decide (cmpRow c.row d.row = 0)) w0.heap.size W v M hv hM fun W' d x hd hm hx => ?_
  obtain ⟨ru, rfl, hru⟩ := hx
  have hlo : Below w0.heap.size W W' := hm.below hW.size (fun j hj => (hv.block hj).1)
  exact netSame_any W' bc c d rv ru (blk_mod hb hm (fun e => hne bc e rfl)) (hrv.keep (hW.trans hlo)) (RowAt.ofOwn hru (by simp) (vl_len _) (by have := hr d hd; simp; omega))

theorem sliceR_mk (g n c : Nat) : sliceR (.slice (some ⟨g, 0, none⟩) n c) = some (slD g n c, []) := rfl
/-- The list of a name behind append: a change more. -/
theorem ChgsOwn.snoc {B : Nat} {w w' : World} {M : List Chg} {c : Chg} {rows : List (List Value)} {g cap n : Nat} {u : Value} (hall : All2 (ChgO B w) rows M) (hk : KV w w') (hn : M.length = n)
    (ho : w'.ownsRow B 30 3 (.slice (some ⟨g, 0, none⟩) (n + 1) cap) (n + 1) (rows.flatten ++ [.bool c.add, .string ⟨c.rel.toArray⟩, u])) (hu : w'.ownsRow B 74 3 u c.row.length (c.row.map Vl.cells).flatten) :
    ChgsOwn B w' (.slice (some ⟨g, 0, none⟩) (n + 1) cap) (M ++ [c]) := by
  refine ⟨rows ++ [[.bool c.add, .string ⟨c.rel.toArray⟩, u]], ?_, All2.snoc ⟨u, rfl, hu⟩ (hall.mono fun b a hh => hh.kv hk)⟩
  rw [List.length_append, List.length_singleton, hn, List.flatten_append]
  simpa using ho
theorem KV.grown {w w' : World} {v : Value} {B : Nat} {l : List Chg} (hg : w.grownBy w' v.ownBlock) (h : ChgsOwn B w v l) : KV w w' := fun j cs fr hj => (hg.block j (Array.getElem?_eq_some_iff.1 hj).1 (fun e => by
  obtain ⟨_, _, cs', hb⟩ := h.block e.symm
  rw [show w.heap[j]? = _ from hb] at hj
  simp only [Option.some.injEq, Obj.cells.injEq] at hj
  exact absurd hj.2.1 (by decide))).trans hj
end Go.Proofs.YtgjknekoehfdfaaGreatDoor
namespace Go.Proofs.YtgjknekoehfdfaaGreatDoor
open Go.RowKit Go.Maps
set_option linter.unusedVariables false

theorem Tryz.strKey : Keyed Tryz.prog 9 := string_keyed Tryz.underlying9
theorem strKl (s : List UInt8) (hs : s.length ≤ 140737488355328) : keyOf Tryz.prog 9 (.string ⟨s.toArray⟩) = some (.string s) := by
  have := Go.WideMaps.keyOf_string_mk (P := Tryz.prog) Tryz.underlying9 (s := ⟨s.toArray⟩) (by
    have : (⟨s.toArray⟩ : ByteArray).size = s.length := by simp [ByteArray.size]
    unfold maxLen
    omega)
  simpa using this
theorem strLit (s : List UInt8) : WideAt.IsKeyLit (.string s) := by
  simp [WideAt.IsKeyLit]
/-- What D holds: f of each key of l, and no other key. -/
def DMap (D : DataW Unit) (l : List (List UInt8)) (f : List UInt8 → Int) : Prop :=
  Tidy D ∧ Maps.size D = l.length ∧ (∀ s, Maps.has D (.string s) = decide (s ∈ l)) ∧ ∀ s, s ∈ l → ∀ z, D.atKey (.string s) z = .lit (.int .i64 (f s))
/-- Block b is such a map, its elements of type e. -/
def NumMap (w : World) (e : TypeId) (b : Nat) (l : List (List UInt8)) (f : List UInt8 → Int) : Prop :=
  ∃ D : DataW Unit, w.ownsMap Tryz.prog 9 (plainElem Tryz.prog e) b l.length D ∧ DMap D l f
theorem DMap.empty (f : List UInt8 → Int) : DMap (.map []) [] f := ⟨tidy_empty, rfl, fun s => by simp [Maps.has], fun s h => by simp at h⟩
theorem DMap.put {D : DataW Unit} {l : List (List UInt8)} {f g : List UInt8 → Int} {s : List UInt8} {c : Int} (h : DMap D l f) (hs : s ∉ l) (hc : g s = c) (hf : ∀ t ∈ l, g t = f t) : DMap (D.put (.string s) (.lit (.int .i64 c))) (l ++ [s]) g := by
  obtain ⟨h1, h2, h3, h4⟩ := h
  have hno : Maps.has D (.string s) = false := by rw [h3, decide_eq_false hs]
  refine ⟨h1.put (strLit s) _, ?_, fun t => ?_, fun t ht z => ?_⟩
  · rw [size_put h1, hno, h2]
    simp
  · by_cases e : t = s
    · subst e
      rw [has_put_same h1.isMap (strLit t)]
      simp
    · rw [has_put_other (fun q => e (by injection q)), h3]
      simp [e]
  · by_cases e : t = s
    · subst e
      rw [atKey_put_same h1.isMap (strLit t), hc]
    · rw [atKey_put_other (fun q => e (by injection q))]
      have ht' : t ∈ l := by simpa [e] using ht
      rw [h4 t ht' z, hf t ht']
/-- .. a key that is there, told anew. -/
theorem DMap.again {D : DataW Unit} {l : List (List UInt8)} {f g : List UInt8 → Int} {s : List UInt8} {c : Int} (h : DMap D l f) (hs : s ∈ l) (hc : g s = c) (hf : ∀ t ∈ l, t ≠ s → g t = f t) : DMap (D.put (.string s) (.lit (.int .i64 c))) l g := by
  obtain ⟨h1, h2, h3, h4⟩ := h
  have hyes : Maps.has D (.string s) = true := by rw [h3, decide_eq_true hs]
  refine ⟨h1.put (strLit s) _, ?_, fun t => ?_, fun t ht z => ?_⟩
  · rw [size_put h1, hyes, h2]
    simp
  · by_cases e : t = s
    · subst e
      rw [has_put_same h1.isMap (strLit t), decide_eq_true hs]
    · rw [has_put_other (fun q => e (by injection q)), h3]
  · by_cases e : t = s
    · subst e
      rw [atKey_put_same h1.isMap (strLit t), hc]
    · rw [atKey_put_other (fun q => e (by injection q)), h4 t ht z, hf t ht e]
theorem DMap.congr {D : DataW Unit} {l : List (List UInt8)} {f g : List UInt8 → Int} (h : DMap D l f) (hf : ∀ t ∈ l, g t = f t) : DMap D l g :=
  ⟨h.1, h.2.1, h.2.2.1, fun s hs z => by rw [h.2.2.2 s hs z, hf s hs]⟩
section
variable {w w' : World} {e : TypeId} {b : Nat} {l : List (List UInt8)} {f : List UInt8 → Int}
theorem NumMap.made (w : World) (e : TypeId) (f : List UInt8 → Int) : NumMap (w.alloc (.map #[] 0)) e w.heap.size [] f :=
  ⟨.map [], World.ownsMap_made _ _ _ _, DMap.empty f⟩
theorem NumMap.lt (h : NumMap w e b l f) : b < w.heap.size := by
  obtain ⟨D, h1, _⟩ := h
  exact h1.lt
theorem NumMap.keep (h : NumMap w e b l f) (hb : w'.heap[b]? = w.heap[b]?) : NumMap w' e b l f := by
  obtain ⟨D, ⟨es, clock, h1, h2⟩, h3⟩ := h
  exact ⟨D, ⟨es, clock, by rw [hb, h1], h2⟩, h3⟩
theorem NumMap.below {B : Nat} (h : NumMap w e b l f) (hb : Below B w w') (hB : b < B) : NumMap w' e b l f := h.keep (hb.block b hB)
theorem NumMap.mt {B : Nat} {Ts : List TypeId} (h : NumMap w e b l f) (hm : MT B Ts w w') : NumMap w' e b l f := by
  obtain ⟨D, ⟨es, clock, h1, h2⟩, h3⟩ := h
  refine ⟨D, ⟨es, clock, ?_, h2⟩, h3⟩
  rw [hm.block b (Array.getElem?_eq_some_iff.1 h1).1, h1]
  rintro ⟨_, cs, t, fr, h4, _⟩
  rw [h1] at h4
  cases h4
theorem NumMap.setCell (h : NumMap w e b l f) {p : Addr} (hp : p.block ≠ b) (u : Value) : NumMap (w.setCell p u) e b l f :=
  h.keep (Below.heap_setCell _ _ _ _ (fun q => hp q.symm))
theorem NumMap.alloc (h : NumMap w e b l f) (o : Obj) : NumMap (w.alloc o) e b l f := by
  obtain ⟨D, h1, h2⟩ := h
  exact ⟨D, h1.alloc o, h2⟩
theorem NumMap.drewN (h : NumMap w e b l f) (n : Nat) : NumMap (w.drewN n) e b l f := h.keep (by simp [World.drewN])
theorem NumMap.congr {g : List UInt8 → Int} (h : NumMap w e b l f) (hf : ∀ t ∈ l, g t = f t) : NumMap w e b l g := by
  obtain ⟨D, h1, h2⟩ := h
  exact ⟨D, h1, h2.congr hf⟩
end
end Go.Proofs.YtgjknekoehfdfaaGreatDoor
namespace Go.Proofs.YtgjknekoehfdfaaGreatDoor
open Go.RowKit Go.Maps
set_option linter.unusedVariables false

theorem strKeys_ok {w : World} {b n : Nat} {D : DataW Unit} (hown : w.ownsMap Tryz.prog 9 sliceR b n D) : (strKeys D).Nodup ∧ ∀ x, x ∈ strKeys D ↔ Maps.has D (.string x) = true := by
  obtain ⟨es, hD, hpw, _⟩ := hown.entries Tryz.strKey
  obtain ⟨es', hD', hko⟩ := hown.keysOf
  obtain rfl : es = es' := by rw [hD] at hD'; simpa using hD'
  subst hD
  have hk : ∀ p ∈ es, ∃ x, p.1 = .string x := fun p hp => by
    obtain ⟨v, hv⟩ := hko p hp
    obtain ⟨x, _, hx, _⟩ := Maps.keyOf_str Tryz.underlying9 hv
    exact ⟨x, hx⟩
  refine ⟨?_, fun x => ?_⟩
  · show (es.map fun p => strOf p.1).Nodup
    refine List.pairwise_map.2 (hpw.imp_of_mem fun {p q} hp' hq' hne e => hne ?_)
    obtain ⟨a, ha⟩ := hk p hp'
    obtain ⟨b, hb⟩ := hk q hq'
    rw [ha, hb] at e ⊢
    exact congrArg _ e
  · rw [Maps.has_eq, List.any_eq_true]
    show x ∈ es.map (fun p => strOf p.1) ↔ _
    rw [List.mem_map]
    constructor
    · rintro ⟨p, hp', rfl⟩
      obtain ⟨a, ha⟩ := hk p hp'
      exact ⟨p, hp', by rw [ha]; simp [Lit.sameKey, strOf]⟩
    · rintro ⟨p, hp', hs⟩
      obtain ⟨a, ha⟩ := hk p hp'
      rw [ha] at hs
      exact ⟨p, hp', by rw [ha]; simpa [Lit.sameKey, strOf] using hs⟩
/-- The names in their order. -/
theorem names_ok {w : World} {b n : Nat} {D : DataW Unit} {l : List Chg} {ss ns : List (List UInt8)} (hown : w.ownsMap Tryz.prog 9 sliceR b n D) (hh : ∀ r, Maps.has D (.string r) = hasN l r) (hp : ss.Perm (strKeys D)) (hns : ss.mergeSort (fun x y => decide (x ≤ y)) = ns) :
    ns.Nodup ∧ (ns.Pairwise fun x y => x ≤ y) ∧ (∀ r, r ∈ ns ↔ hasN l r = true) ∧ ss.length = ns.length := by
  have tr : ∀ a b c : List UInt8, decide (a ≤ b) = true → decide (b ≤ c) = true → decide (a ≤ c) = true := fun a b c h1 h2 => by simp only [decide_eq_true_eq] at *; exact List.le_trans h1 h2
  have tot : ∀ a b : List UInt8, (decide (a ≤ b) || decide (b ≤ a)) = true := fun a b => by simp only [Bool.or_eq_true, decide_eq_true_eq]; exact List.le_total a b
  have hs := List.pairwise_mergeSort tr tot ss
  have hpm := List.mergeSort_perm ss (fun x y => decide (x ≤ y))
  rw [hns] at hs hpm
  obtain ⟨h1, h2⟩ := strKeys_ok hown
  have hpp := hpm.trans hp
  refine ⟨hpp.nodup_iff.2 h1, hs.imp fun h => of_decide_eq_true h, fun r => ?_, hpm.length_eq.symm⟩
  rw [hpp.mem_iff, h2, hh]
theorem nmL_some {r : List UInt8} : ∀ (l M : List Chg), (hasN l r = true ∨ M ≠ []) → l.foldl (nmStep r) M ≠ []
  | [], M, h => by
    rcases h with h | h
    · cases h
    · exact h
  | c :: l, M, h => by
    refine nmL_some l _ ?_
    by_cases hc : c.rel = r
    · right
      unfold nmStep
      rw [if_pos hc]
      simp
    · rcases h with h | h
      · left
        have h1 : hasN (c :: l) r = (decide (c.rel = r) || hasN l r) := rfl
        rw [h1, decide_eq_false hc, Bool.false_or] at h
        exact h
      · right
        unfold nmStep
        rw [if_neg hc]
        exact h
theorem nmL_pos {r : List UInt8} {l : List Chg} (h : hasN l r = true) : 0 < (nmL r l).length := List.length_pos_iff.2 (nmL_some l [] (.inl h))
theorem netGo_len : ∀ (l out : List Chg), (netGo out l).length ≤ out.length + l.length
  | [], out => by simp [netGo]
  | x :: r, out => by
    unfold netGo
    by_cases h : r.any (alikeC x) = true
    · rw [if_pos h]
      have := netGo_len r out
      rw [List.length_cons]
      omega
    · rw [if_neg h]
      have := netGo_len r (insC out x)
      have h2 : (insC out x).length = out.length + 1 := by
        unfold insC
        rw [List.length_reverse]
        have h3 : ∀ (r : List Chg), (insR r x).length = r.length + 1 := by
          intro r
          induction r with
          | nil => rfl
          | cons y r ih =>
            unfold insR
            by_cases h : aheadC x y = true
            · rw [if_pos h, List.length_cons, ih, List.length_cons]
            · rw [if_neg h, List.length_cons]
        rw [h3, List.length_reverse]
      rw [List.length_cons]
      omega
theorem netC_len (l : List Chg) : (netC l).length ≤ l.length := by
  have := netGo_len l []
  simpa [netC] using this
theorem netC_mem {l : List Chg} {z : Chg} (h : z ∈ netC l) : z ∈ l := lastIn_mem (mem_netC.1 h)
theorem flat_take {S : List UInt8 → List Chg} (ns : List (List UInt8)) (t : Nat) : ((ns.take t).flatMap S).length ≤ (ns.flatMap S).length := by
  conv => rhs; rw [← List.take_append_drop t ns]
  rw [List.flatMap_append, List.length_append]
  omega
theorem flat_succ {S : List UInt8 → List Chg} {ns : List (List UInt8)} {t : Nat} {r : List UInt8} (h : ns[t]? = some r) : (ns.take (t + 1)).flatMap S = (ns.take t).flatMap S ++ S r := by
  rw [List.take_add_one, h, List.flatMap_append]
  simp
theorem all2_app {α β : Type} {R : α → β → Prop} : ∀ {a b : List α} {c d : List β}, All2 R a c → All2 R b d → All2 R (a ++ b) (c ++ d)
  | [], _, [], _, _, k => k
  | _ :: _, _, _ :: _, _, h, k => ⟨h.1, all2_app h.2 k⟩
  | [], _, _ :: _, _, h, _ => h.elim
  | _ :: _, _, [], _, h, _ => h.elim

theorem strKeys_len {w : World} {b n : Nat} {D : DataW Unit} (hown : w.ownsMap Tryz.prog 9 sliceR b n D) : (strKeys D).length = Maps.size D := by
  obtain ⟨es, rfl, _, _⟩ := hown.entries Tryz.strKey
  simp [strKeys, Maps.size]
theorem flat_one (ns : List (List UInt8)) : (ns.map fun s => [encStr s]).flatten = ns.map encStr := by
  induction ns with
  | nil => rfl
  | cons a l ih => rw [List.map_cons, List.flatten_cons, ih]; rfl
theorem names_row {w : World} {B : Nat} {v : Value} {ns : List (List UInt8)} (h : w.ownsRow B 9 1 v ns.length (ns.map encStr)) (hl : ns.length ≤ 8796093022208) : RowAt w v 1 (ns.map fun s => [encStr s]) := by
  refine RowAt.ofOwn (n := ns.length) (by rw [flat_one]; exact h) (by simp) ?_ (by simpa using hl)
  intro x hx
  obtain ⟨s, _, rfl⟩ := List.mem_map.1 hx
  rfl
theorem netnm_len (r : List UInt8) (l : List Chg) : (netC (nmL r l)).length = (nmL r l).length := by
  have hp : (netC (nmL r l)).Perm (nmL r l) := by
    refine (List.perm_ext_iff_of_nodup ?_ ?_).2 fun z => mem_netnm
    · exact (netC_sorted (nmL r l)).imp fun {x y} h e => by
        subst e
        rw [cmpC_self] at h
        omega
    · exact (nmL_ok r l).apart.imp fun {x y} h e => by
        subst e
        exact h (cmpRow_self _)
  exact hp.length_eq
/-- Between two rounds of the second loop. -/
structure Net2 (w0 w9 : World) (l : List Chg) (ns : List (List UInt8)) (blk cp : List UInt8 → Nat) (t : Nat) (out : Value) (W : World) : Prop where
  own : ChgsOwn w0.heap.size W out ((ns.take t).flatMap fun r => netC (nmL r l))
  far : ∀ g, out.ownBlock = some g → w9.heap.size ≤ g
  rest : ∀ r ∈ ns.drop t, ChgsOwn w0.heap.size W (.slice (some ⟨blk r, 0, none⟩) (nmL r l).length (cp r)) (nmL r l)
  mt : MT 0 [30] w9 W
  bel : Below w0.heap.size w0 W
theorem Net2.start {w0 w9 : World} {l : List Chg} {ns : List (List UInt8)} {b n : Nat} {D : DataW Unit} {blk cp : List UInt8 → Nat} (hM : NetM w0.heap.size w9 b n l D blk cp) (hh : ∀ r ∈ ns, hasN l r = true) (hb : Below w0.heap.size w0 w9) : Net2 w0 w9 l ns blk cp 0 (.slice none 0 0) w9 where
  own := ⟨[], World.ownsRow_nil _ _ _ _, trivial⟩
  far := fun g hg => by cases hg
  rest := fun r hr => hM.own r (hh r hr)
  mt := MT.refl w9
  bel := hb
theorem Net2.step {w0 w9 W W1 W2 : World} {l : List Chg} {ns : List (List UInt8)} {b n : Nat} {D : DataW Unit} {blk cp : List UInt8 → Nat} {t g cap a m : Nat} {out : Value} {r : List UInt8} {rows rs : List (List Value)} (h : Net2 w0 w9 l ns blk cp t out W) (hM : NetM w0.heap.size w9 b n l D blk cp)
    (hnd : ns.Nodup) (hr : ns[t]? = some r) (hh : ∀ r ∈ ns, hasN l r = true) (h09 : w0.heap.size ≤ w9.heap.size) (hm1 : Mod (fun j => j = blk r) W W1) (ht1 : MT 0 [30] W W1)
    (hal : All2 (ChgO w0.heap.size W1) rows ((ns.take t).flatMap fun r => netC (nmL r l))) (hrs : All2 (ChgO w0.heap.size W1) rs (netC (nmL r l))) (ha : ((ns.take t).flatMap fun r => netC (nmL r l)).length = a) (hm : (netC (nmL r l)).length = m)
    (ho1 : ChgsOwn w0.heap.size W1 out ((ns.take t).flatMap fun r => netC (nmL r l))) (hg2 : W1.grownBy W2 out.ownBlock) (hat : out.ownBlock = some g ∨ g = W1.heap.size) (ho2 : W2.ownsRow w0.heap.size 30 3 (.slice (some ⟨g, 0, none⟩) (a + m) cap) (a + m) (rows.flatten ++ rs.flatten)) :
    Net2 w0 w9 l ns blk cp (t + 1) (.slice (some ⟨g, 0, none⟩) (a + m) cap) W2 := by
  have hmem : r ∈ ns := List.mem_of_getElem? hr
  have hbr := (hM.own r (hh r hmem)).block (g := blk r) rfl
  have hs9 := h.mt.size
  have hs1 := hm1.size
  have kv := KV.grown hg2 ho1
  have hm2 : Mod (fun j => out.ownBlock = some j) W1 W2 := ⟨hg2.os, hg2.tape, hg2.output, hg2.size, fun i hi hn => hg2.block i hi (fun e => hn e.symm)⟩
  have hmt2 : MT 0 [30] W1 W2 := by
    refine ⟨hg2.os, hg2.tape, hg2.output, hg2.size, fun i hi hn => hg2.block i hi fun e => hn ⟨Nat.zero_le _, ?_⟩⟩
    obtain ⟨_, _, cs, hb⟩ := ho1.block e.symm
    exact ⟨cs, _, _, hb, by simp⟩
  refine ⟨?_, fun g' hg' => ?_, fun r' hr' => ?_, (h.mt.trans ht1).trans hmt2, (h.bel.trans (hm1.below (by omega) (fun i hi => by omega))).trans (hm2.below (by omega) (fun i hi => by have := h.far i hi; omega))⟩
  · rw [flat_succ hr]
    refine ⟨rows ++ rs, ?_, (all2_app hal hrs).mono fun b a hh => hh.kv kv⟩
    rw [List.length_append, ha, hm, List.flatten_append]
    exact ho2
  · simp only [Value.ownBlock, Option.some.injEq] at hg'
    subst hg'
    rcases hat with h1 | h1
    · exact h.far _ h1
    · omega
  · have hr2 : r' ∈ ns.drop t := by
      rw [List.drop_eq_getElem_cons (List.getElem?_eq_some_iff.1 hr).1]
      exact List.mem_cons_of_mem _ hr'
    have hne : r' ≠ r := by
      rintro rfl
      have h1 : (ns.drop t).Nodup := hnd.sublist (List.drop_sublist _ _)
      rw [List.drop_eq_getElem_cons (List.getElem?_eq_some_iff.1 hr).1, (List.getElem?_eq_some_iff.1 hr).2] at h1
      exact (List.nodup_cons.1 h1).1 hr'
    have hm' : r' ∈ ns := List.mem_of_mem_drop hr'
    have hb' := (hM.own r' (hh r' hm')).block (g := blk r') rfl
    have h1 := (h.rest r' hr2).kv (KV.mt ht1) hm1 (fun k hk e => by
      simp only [Value.ownBlock, Option.some.injEq] at hk
      subst hk
      exact hne (hM.apart r' r (hh r' hm') (hh r hmem) e))
    refine h1.kv kv hm2 (fun k hk e => ?_)
    simp only [Value.ownBlock, Option.some.injEq] at hk
    subst hk
    have := h.far _ e
    omega
end Go.Proofs.YtgjknekoehfdfaaGreatDoor
namespace Go.Proofs.YtgjknekoehfdfaaGreatDoor
open Go.RowKit Go.Maps
set_option linter.unusedVariables false

theorem ownsMap_mod {w w' : World} {F : Nat → Prop} {b n : Nat} {D : DataW Unit} {R : Value → Option (DataW Unit × List MemPlace)} {k : TypeId} (h : w.ownsMap Tryz.prog k R b n D) (hm : Mod F w w') (hF : ¬ F b) : w'.ownsMap Tryz.prog k R b n D := by
  have hl := h.lt
  obtain ⟨es, cl, h1, h2⟩ := h
  exact ⟨es, cl, (hm.block b hl hF).trans h1, h2⟩
theorem ownsMap_isMap {w : World} {b n : Nat} {D : DataW Unit} {R : Value → Option (DataW Unit × List MemPlace)} {k : TypeId} (h : w.ownsMap Tryz.prog k R b n D) : ∃ es cl, w.heap[b]? = some (.map es cl) := by
  obtain ⟨es, cl, h1, _⟩ := h
  exact ⟨es, cl, h1⟩
theorem mod_grown {w w' : World} {o : Option Nat} (h : w.grownBy w' o) : Mod (fun j => o = some j) w w' := ⟨h.os, h.tape, h.output, h.size, fun i hi hn => h.block i hi (fun e => hn e.symm)⟩
/-- All that a round leaves. -/
theorem NetM.round {w0 W1 w5 w6 w7 wj w9 : World} {n : Nat} {p : List Chg} {D : DataW Unit} {blk cp : List UInt8 → Nat} {c : Chg} {v0 v5 : Value} {g cap m : Nat} {u : Value} {o : Obj} {rows5 : List (List Value)} (h : NetM w0.heap.size W1 w0.heap.size n p D blk cp) (h01 : Below w0.heap.size w0 W1)
    (hv0 : ChgsOwn w0.heap.size W1 v0 (nmL c.rel p)) (hv0b : ∀ g, v0.ownBlock = some g → hasN p c.rel = true ∧ g = blk c.rel)
    (hm5 : Mod (fun j => v0.ownBlock = some j) W1 w5) (ht5 : MT 0 [30] W1 w5) (hob : v5.ownBlock = v0.ownBlock)
    (hg6 : w5.grownBy w6 (some w0.heap.size)) (hmap6 : w6.ownsMap Tryz.prog 9 sliceR w0.heap.size n (D.del (.string c.rel))) (hv5 : ChgsOwn w0.heap.size w6 v5 ((nmL c.rel p).filter fun d => !decide (cmpRow c.row d.row = 0)))
    (hb7 : Below w6.heap.size w6 w7) (hu7 : w7.ownsRow w6.heap.size 74 3 u c.row.length (c.row.map Vl.cells).flatten)
    (hgj : (w7.alloc o).grownBy wj v5.ownBlock) (hat : v5.ownBlock = some g ∨ g = (w7.alloc o).heap.size) (hmm : ((nmL c.rel p).filter fun d => !decide (cmpRow c.row d.row = 0)).length = m)
    (hr5 : All2 (ChgO w0.heap.size w6) rows5 ((nmL c.rel p).filter fun d => !decide (cmpRow c.row d.row = 0)))
    (hoj : wj.ownsRow w0.heap.size 30 3 (.slice (some ⟨g, 0, none⟩) (m + 1) cap) (m + 1) (rows5.flatten ++ [.bool c.add, .string ⟨c.rel.toArray⟩, u]))
    (hg9 : wj.grownBy w9 (some w0.heap.size)) (hmap9 : w9.ownsMap Tryz.prog 9 sliceR w0.heap.size (n + 1) ((D.del (.string c.rel)).put (.string c.rel) (slD g (m + 1) cap))) :
    (∃ D' blk' cp', NetM w0.heap.size w9 w0.heap.size (n + 1) (p ++ [c]) D' blk' cp') ∧ Below w0.heap.size w0 w9 := by
  obtain ⟨es, cl, hbm⟩ := ownsMap_isMap h.map
  have hb1 := h.map.lt
  have hnb : v0.ownBlock ≠ some w0.heap.size := fun e => hv0.notMap hbm e rfl
  have hbm5 : w5.heap[w0.heap.size]? = some (.map es cl) := (hm5.block _ hb1 hnb).trans hbm
  have hs5 := hm5.size
  have hs6 := hg6.size
  obtain ⟨es6, cl6, hbm6⟩ := ownsMap_isMap hmap6
  have hb6 := hmap6.lt
  have hs7 := hb7.size
  have hbmj : wj.heap[w0.heap.size]? = some (.map es6 cl6) := by
    rw [hgj.block _ (by simp; omega) (by rw [hob]; exact hnb.symm), Below.heap_alloc _ _ _ (by omega), hb7.block _ hb6, hbm6]
  have hsj := hgj.size
  have hs9 := hg9.size
  have hsa : (w7.alloc o).heap.size = w7.heap.size + 1 := by simp
  -- rows of values
  have hv7 : ChgsOwn w0.heap.size (w7.alloc o) v5 ((nmL c.rel p).filter fun d => !decide (cmpRow c.row d.row = 0)) := (hv5.mt (MT.ofBelow (B := 0) (Ts := []) hb7) (by simp) (by simp)).mt (MT.ofBelow (B := 0) (Ts := []) (balloc (Below.refl _ _) o)) (by simp) (by simp)
  have k6j : KV w6 wj := ((KV.below hb7).trans (KV.below (balloc (Below.refl _ _) o))).trans (KV.grown hgj hv7)
  have k9 : KV wj w9 := KV.map hg9 hbmj
  have k16 : KV W1 w6 := (KV.mt ht5).trans (KV.map hg6 hbm5)
  have kall : KV W1 w9 := (k16.trans k6j).trans k9
  -- what was written
  have m6 : Mod (fun j => v0.ownBlock = some j ∨ j = w0.heap.size) W1 w6 := (hm5.mono (fun _ _ e => .inl e)).trans (mod_grown hg6) (fun i _ e => .inr (Option.some.inj e).symm)
  have m7 : Mod (fun j => v0.ownBlock = some j ∨ j = w0.heap.size) W1 w7 := m6.trans (Mod.ofBelow (F := fun j => v0.ownBlock = some j ∨ j = w0.heap.size) hb7) (fun _ _ e => e)
  have mj : Mod (fun j => v0.ownBlock = some j ∨ j = w0.heap.size) W1 wj := (m7.alloc o).trans (mod_grown hgj) (fun i _ e => .inl (by rw [← hob]; exact e))
  have m9 : Mod (fun j => v0.ownBlock = some j ∨ j = w0.heap.size) W1 w9 := mj.trans (mod_grown hg9) (fun i _ e => .inr (Option.some.inj e).symm)
  have hs01 := h01.size
  have hlow : Below w0.heap.size W1 w9 := m9.below hs01 (fun i hi => by
    rcases hi with hi | hi
    · exact (hv0.block hi).1
    · omega)
  have huj : wj.ownsRow w0.heap.size 74 3 u c.row.length (c.row.map Vl.cells).flatten := ownsRow_kv (World.ownsRow.low hu7 (by omega)) ((KV.below (balloc (Below.refl _ _) o)).trans (KV.grown hgj hv7))
  have hnewj := ChgsOwn.snoc hr5 k6j hmm hoj huj
  have hnew9 : ChgsOwn w0.heap.size w9 (.slice (some ⟨g, 0, none⟩) (m + 1) cap) (nmL c.rel (p ++ [c])) := by
    rw [nmL_same rfl]
    refine hnewj.kept hg9 (fun r e => ?_)
    cases e
    exact ⟨_, hbmj, rfl⟩
  have hst := h.step (w' := w9) (n' := n + 1) (c := c) (v := v0) (g := g) (len := m + 1) (cap := cap) hv0b m9 kall hmap9 (by
    rcases hat with h1 | h1
    · exact .inl (by rw [← hob]; exact h1)
    · exact .inr (by have := hm5.size; omega)) hnew9 (by rw [nmL_same rfl, List.length_append, hmm]; rfl)
  exact ⟨⟨_, _, _, hst⟩, h01.trans hlow⟩

/-- Where the first loop ends. -/
def NetEnd (w : World) (l : List Chg) (W : World) : Prop := ∃ (D : DataW Unit) (blk cp : List UInt8 → Nat), NetM w.heap.size W w.heap.size l.length l D blk cp ∧ Below w.heap.size w W

set_option maxHeartbeats 16000000 in
set_option maxRecDepth 100000 in
theorem cnet_any (w : World) (v : Value) (l : List Chg) (h : ChgsAt w v l) (hn : l.length ≤ 2932031007402) (hz : ∀ c ∈ l, c.rel.length ≤ 140737488355328) :
    Calls Tryz.prog 16 #[v] w fun e w' => ∃ v', e = .returned v' ∧ ChgsOwn w.heap.size w' v' (netC l) ∧ Below w.heap.size w w' := by
  obtain ⟨ic, hic, hc0, hc1, hc2⟩ := info_parts Tryz.infoCg
  have hmm := @run_makeMap Tryz.prog
  have hmf : ∀ (fn : Fn) (first cap : Array Value) (w : World), (Instr.makeFunc fn first cap).run Tryz.prog w = .ok (.func fn first cap) w := fun _ _ _ _ => rfl
  obtain ⟨va, vc, rfl, hvc, hvm⟩ := h.form
  unfold maxLen at hvm
  have hrows := h.rows
  have HA := Lib.hid h
  have HRW := Lib.hid hrows
  have HZ := Lib.hid hz
  clear h hrows hz
  generalize hN : l.length = n at *
  have HN := Lib.hid hN
  clear hN
  have hb0 : Below w.heap.size w (w.alloc (.map #[] 0)) := balloc (Below.refl _ _) _
  have hm0 := NetM.start w.heap.size w
  obtain ⟨W0, hW0⟩ : ∃ W0, w.alloc (.map #[] 0) = W0 := ⟨_, rfl⟩
  rw [hW0] at hb0 hm0
  have HB0 := Lib.hid hb0
  have HM0 := Lib.hid hm0
  have HW0 := Lib.hid hW0
  clear hb0 hm0 hW0
  go_enter Tryz.func16, Tryz.ntmps16
  go_upto_region 2 with fail
  rw [HW0.out]
  clear HW0
  go_wp2_with fail
  go_loopw [5, 6, 7, 15] (fun _ _ _ iv wr => ∃ (k : Nat) (D : DataW Unit) (blk cp : List UInt8 → Nat), k ≤ n ∧ iv = .int .i64 k ∧ Hid (NetM w.heap.size wr w.heap.size k (l.take k) D blk cp) ∧ Hid (Below w.heap.size w wr)) (fun _ _ _ iv _ => n - (intOf iv).toNat)
  case atStart => exact ⟨0, _, _, _, Nat.zero_le _, rfl, HM0, HB0⟩
  case round =>
    obtain ⟨k, D, blk, cp, hk, rfl, HM, BW⟩ := hrel
    obtain ⟨wo, rfl⟩ : ∃ wo : World, wo = wr := ⟨_, rfl⟩
    by_cases hlt : k < n
    · obtain ⟨c, hc⟩ : ∃ c, l[k]? = some c := ⟨l[k]'(by rw [HN.out]; exact hlt), List.getElem?_eq_getElem (by rw [HN.out]; exact hlt)⟩
      obtain ⟨b1, o1, c1, rv, hv1, _, _, hl1, q0, q1, q2, hr1, hrl1⟩ := HA.out.get hc
      rw [HN.out] at hv1
      simp only [Value.slice.injEq, true_and] at hv1
      obtain ⟨rfl, rfl⟩ := hv1
      obtain ⟨ra, rc, rfl, _, _⟩ := hr1.form
      have q0 := (BW.out.cell (p := ⟨b1, o1 + k * 3, none⟩) hl1).trans q0
      have q1 := (BW.out.cell (p := ⟨b1, o1 + k * 3 + 1, none⟩) hl1).trans q1
      have q2 := (BW.out.cell (p := ⟨b1, o1 + k * 3 + 2, none⟩) hl1).trans q2
      have hwz := BW.out.size
      have hli := Nat.lt_of_lt_of_le hl1 hwz
      have hkl := strKl c.rel (HZ.out c (List.mem_of_getElem? hc))
      have HR1 := Lib.hid hr1
      have HRL := Lib.hid hrl1
      have HC := Lib.hid hc
      clear hr1 hrl1 hc hl1
      generalize hrn : (c.row.map Vl.cells).length = rn at *
      have hdk : decide ((k : Int) < 0) = false := by simp
      have hdn : decide ((n : Int) ≤ (k : Int)) = false := by simp; omega
      have bx := Blk.new wo 30 #[.bool c.add, .string ⟨c.rel.toArray⟩, .slice ra rn rc]
      have hbx : Below wo.heap.size wo (wo.alloc (.cells #[.bool c.add, .string ⟨c.rel.toArray⟩, .slice ra rn rc] 30)) := balloc (Below.refl _ _) _
      obtain ⟨W1, hW1⟩ : ∃ W1, wo.alloc (.cells #[.bool c.add, .string ⟨c.rel.toArray⟩, .slice ra rn rc] 30) = W1 := ⟨_, rfl⟩
      rw [hW1] at bx hbx
      have hbw1 := BW.out.trans (hbx.mono hwz)
      have HM1 := Lib.hid (HM.out.keep hbx)
      have HW1 := Lib.hid hW1
      have HBX := Lib.hid bx
      have HBW1 := Lib.hid hbw1
      have x1 := bx.cell 1
      have xl := bx.lt
      simp only [List.getElem?_toArray, List.getElem?_cons_zero, List.getElem?_cons_succ] at x1
      clear bx hbx hbw1 hW1 hrn
      go_upto_region 5 with fail
      rw [HW1.out]
      clear HW1 q0 q1 q2 hli
      go_wp2_with (at_lookup; refine wpList_lookup_own _ rfl _ _ 80 rfl 9 22 Tryz.strKey Tryz.underlying80 sliceR (zeroChgs _) (.agg []) [] rfl w.heap.size k D rfl HM1.out.map _ _ rfl hkl ?_)
      intro v0 ps0 hv0
      have hlk := HM1.out.look hv0
      have hll := nmL_le c.rel (l.take k)
      have hdel := netDel_any w W1 wo.heap.size c _ v0 _ HBW1.out HBX.out HR1.out hlk.1 (by rw [List.length_take] at hll; omega) (fun d hd => HRW.out d (List.mem_of_mem_take (nmL_mem hd))) (fun g hg => by
        obtain ⟨h1, h2⟩ := hlk.2 g hg
        have := ((HM.out.own c.rel h1).block (g := blk c.rel) rfl).2.1
        omega)
      have HLK := Lib.hid hlk
      have HDEL := Lib.hid hdel
      clear hv0 hlk hll hdel
      go_wp2_with fail
      refine HDEL.out.mono ?_
      rintro e w5 ⟨v5, rfl, hown5, hob5, hmod5, hmt5⟩
      obtain ⟨es1, cl1, hbm1⟩ := ownsMap_isMap HM1.out.map
      have hnb : v0.ownBlock ≠ some w.heap.size := fun e => HLK.out.1.notMap hbm1 e rfl
      have hnx : v0.ownBlock ≠ some wo.heap.size := fun e => by
        obtain ⟨h1, h2⟩ := HLK.out.2 _ e
        have := ((HM.out.own c.rel h1).block (g := blk c.rel) rfl).2.1
        omega
      have bx5 := blk_mod HBX.out hmod5 hnx
      have HMP5 := Lib.hid (ownsMap_mod HM1.out.map hmod5 hnb)
      have HB5 := Lib.hid bx5
      have HO5 := Lib.hid hown5
      have HMD5 := Lib.hid (And.intro hmod5 (And.intro hmt5 hob5))
      have x1 := bx5.cell 1
      have xl := bx5.lt
      simp only [List.getElem?_toArray, List.getElem?_cons_zero, List.getElem?_cons_succ] at x1
      clear hbm1 hnb hnx bx5 hown5 hmod5 hmt5 hob5 HDEL
      go_wp2_with (at_delete; refine wpList_delete_own _ rfl _ _ 80 9 rfl 22 Tryz.strKey Tryz.underlying80 sliceR w.heap.size k D rfl HMP5.out _ _ rfl hkl ?_)
      intro w6 hown6 hturn6
      have hg6 := hturn6.grown
      obtain ⟨es5, cl5, hbm5⟩ := ownsMap_isMap HMP5.out
      have hnc : ∀ r, (some w.heap.size : Option Nat) = some r → ∃ o : Obj, w5.heap[r]? = some o ∧ o.isCells = false := fun r e => by
        cases e
        exact ⟨_, hbm5, rfl⟩
      have bx6 := blk_kept HB5.out hg6 hnc
      have hv6 := HO5.out.kept hg6 hnc
      have hlow6 : Below w.heap.size w w6 := (HBW1.out.trans (HMD5.out.1.below HBW1.out.size (fun i hi => (HLK.out.1.block hi).1))).trans ((mod_grown hg6).below (by have := HMD5.out.1.size; have := HBW1.out.size; omega) (fun i hi => by have := Option.some.inj hi; omega))
      have HCL := Lib.hid (fun W (hW : Below w6.heap.size w6 W) => cclone_any W c.add ⟨c.rel.toArray⟩ _ c.row (HR1.out.keep (hlow6.trans (hW.mono hlow6.size))) HRL.out)
      obtain ⟨rows5, hro5, hall5⟩ := hv6
      obtain ⟨m5, hm5⟩ : ∃ m5, ((nmL c.rel (l.take k)).filter fun d => !decide (cmpRow c.row d.row = 0)).length = m5 := ⟨_, rfl⟩
      rw [hm5] at hro5
      have hm5k : m5 ≤ k := by
        have h1 := List.length_filter_le (fun d : Chg => !decide (cmpRow c.row d.row = 0)) (nmL c.rel (l.take k))
        have h2 := nmL_le c.rel (l.take k)
        rw [List.length_take] at h2
        omega
      have x0 := bx6.cell 0
      have x1 := bx6.cell 1
      have x2 := bx6.cell 2
      have xl := bx6.lt
      simp only [List.getElem?_toArray, List.getElem?_cons_zero, List.getElem?_cons_succ] at x0 x1 x2
      have hws6 := hlow6.size
      have HBX6 := Lib.hid bx6
      have HMP6 := Lib.hid hown6
      have HG6 := Lib.hid hg6
      have HRO5 := Lib.hid hro5
      have HAL5 := Lib.hid hall5
      have HM5 := Lib.hid hm5
      have HNB6 : Hid (v5.ownBlock ≠ some w.heap.size ∧ v5.ownBlock ≠ some wo.heap.size) := Lib.hid ⟨fun e => by
        obtain ⟨es6, cl6, hbm6⟩ := ownsMap_isMap hown6
        exact (show ChgsOwn w.heap.size w6 v5 _ from ⟨rows5, by rw [hm5]; exact hro5, hall5⟩).notMap hbm6 e rfl, fun e => by
        rw [HMD5.out.2.2] at e
        obtain ⟨h1, h2⟩ := HLK.out.2 _ e
        have := ((HM.out.own c.rel h1).block (g := blk c.rel) rfl).2.1
        omega⟩
      clear hown6 hturn6 hg6 hbm5 hnc bx6 hlow6 hro5 hall5 hm5 HB5 HMP5
      go_wp2_with fail
      go_region_law (first
        | (refine step_append_lies _ rfl (.tmp 32) (.tmp 35) 22 rfl w.heap.size 30 ic (.agg #[.bool false, .string ⟨#[]⟩, .slice none 0 0]) 3 48 Tryz.underlying22 hic hc0 hc1 hc2 rfl (by decide) v5 m5 _ rfl (HV7.out.alloc _) ⟨_, 0, none⟩ 1 1 [.bool c.add, .string ⟨c.rel.toArray⟩, .slice ua c.row.length uc] rfl rfl (World.news_of_block (Blk.new _ _ _)) (by simp [Value.oneCell']) (by decide) (by unfold maxLen; omega) (by omega) (by simp; omega) _ rfl ?_; intro g8 cap8 wj hown8 hgrow8 hat8 hlt8; have hmj := ((ownsMap_mod (F := fun _ => False) HMP6.out (Mod.ofBelow (bt2 HB7.out (balloc (Below.refl _ _) (.cells #[.bool c.add, .string ⟨c.rel.toArray⟩, .slice ua c.row.length uc] 30)))) (fun h => h)).kept hgrow8 (fun e => HNB6.out.1 e.symm)); have bxj := (HBX7.out.alloc (.cells #[.bool c.add, .string ⟨c.rel.toArray⟩, .slice ua c.row.length uc] 30)).grown hgrow8 (fun e => HNB6.out.2 e.symm); have x1 := bxj.cell 1; have xl := bxj.lt; simp only [List.getElem?_toArray, List.getElem?_cons_zero, List.getElem?_cons_succ] at x1; obtain ⟨w9, hrun9, hown9, hgrow9⟩ := hmj.update Tryz.strKey Tryz.underlying80 (by unfold maxLen; omega) hkl (sliceR_mk g8 (m5 + 1) cap8); have HR8 := Lib.hid (And.intro hown8 (And.intro hgrow8 (And.intro hat8 (And.intro hown9 hgrow9)))); clear hown8 hgrow8 hat8 hmj bxj hown9 hgrow9)
        | (go_simp; go_at_call 44; refine (HCL.out _ (bdrew (Below.refl _ _))).mono ?_; rintro e w7 ⟨u7, rfl, hu7, hb7⟩; obtain ⟨ua, uc, rfl⟩ := own_sl hu7; have b7 : Below w6.heap.size w6 w7 := bt2 (bdrew (Below.refl _ _)) hb7; have bx7 := HBX6.out.below b7 HBX6.out.lt; have x1 := bx7.cell 1; have xl := bx7.lt; simp only [List.getElem?_toArray, List.getElem?_cons_zero, List.getElem?_cons_succ] at x1; have hs7 := b7.size; have HB7 := Lib.hid b7; have HBX7 := Lib.hid bx7; have HU7 := Lib.hid hu7; have HV7 := Lib.hid ((MT.ofBelow (B := 0) (Ts := []) b7).ownsRow HRO5.out (by simp)); clear b7 bx7 hu7 hb7))
      all_goals
        have hfin := NetM.round HM1.out HBW1.out HLK.out.1 HLK.out.2 HMD5.out.1 HMD5.out.2.1 HMD5.out.2.2 HG6.out HMP6.out ⟨rows5, by rw [HM5.out]; exact HRO5.out, HAL5.out⟩ HB7.out HU7.out HR8.out.2.1 HR8.out.2.2.1 HM5.out HAL5.out HR8.out.1 HR8.out.2.2.2.2 HR8.out.2.2.2.1
        have HF := Lib.hid hfin
        clear hfin hrun9
        go_wp2_with fail
        go_roundw
        case rel =>
          obtain ⟨⟨D', blk', cp', h1⟩, h2⟩ := HF.out
          exact ⟨k + 1, D', blk', cp', by omega, by go_num, Lib.hid (by rw [take_succ_of HC.out]; exact h1), Lib.hid h2⟩
        case measure => simp [intOf]; omega
    · obtain rfl : k = n := by omega
      have hM := HM.out
      rw [List.take_of_length_le (by rw [HN.out]; exact Nat.le_refl _)] at hM
      have HNM := Lib.hid hM
      clear hM HM HM0 HB0
      go_wp2_with fail
      refine (keysN_any w.heap.size wo).mono ?_
      rintro e w2 ⟨rfl, rfl⟩
      go_wp2_with fail
      refine (sortedN_any wo w.heap.size k D HNM.out.map (by have := HNM.out.map.size_le; omega)).mono ?_
      rintro e w9 ⟨v9, ss, rfl, hperm, hnm, hb9⟩
      obtain ⟨ns, hns⟩ : ∃ ns, ss.mergeSort (fun x y => decide (x ≤ y)) = ns := ⟨_, rfl⟩
      obtain ⟨hnd, hsrt, hmem, hlen⟩ := names_ok HNM.out.map HNM.out.has hperm hns
      rw [hns, hlen] at hnm
      have hnk : ns.length ≤ k := by
        have h1 := HNM.out.map.size_le
        have h2 := hperm.length_eq
        have h3 := strKeys_len HNM.out.map
        omega
      have hrow := names_row hnm (by omega)
      obtain ⟨na, nc, rfl, hncap, hnmax⟩ := hrow.form
      rw [List.length_map] at hncap hnm hrow ⊢
      unfold maxLen at hnmax
      have hcode := code_net hnd hsrt (fun r => (hmem r).trans hasN_iff)
      have h09 := BW.out.trans (hb9.mono BW.out.size)
      have NM9 := HNM.out.keep hb9
      have HNM9 := Lib.hid NM9
      have HND := Lib.hid hnd
      have HMEM := Lib.hid (fun r hr => (hmem r).1 hr)
      have HCODE := Lib.hid hcode
      have HNROW := Lib.hid hnm
      have H09 := Lib.hid h09
      have HST := Lib.hid (Net2.start NM9 (fun r hr => (hmem r).1 hr) h09)
      have hwz9 := h09.size
      clear hns hperm hnm hb9 hnd hsrt hmem hlen hrow hcode h09 NM9 HNM
      generalize hq : ns.length = q at *
      have HQ := Lib.hid hq
      clear hq
      go_wp2_with fail
      go_loopw [8, 10, 11, 42] (fun ov _ _ iv wr => ∃ (t : Nat) (oa : Option Addr) (ol oc : Nat), t ≤ q ∧ iv = .int .i64 t ∧ ov = .slice oa ol oc ∧ Hid (((ns.take t).flatMap fun r => netC (nmL r l)).length = ol) ∧ Hid (Net2 w w9 l ns blk cp t (.slice oa ol oc) wr)) (fun _ _ _ iv _ => q - (intOf iv).toNat)
      case atStart => exact ⟨0, none, 0, 0, Nat.zero_le _, rfl, rfl, Lib.hid rfl, HST⟩
      case round =>
        obtain ⟨t, oa, ol, oc, htq, rfl, rfl, HOL, HN2⟩ := hrel
        obtain ⟨wt, rfl⟩ : ∃ wt : World, wt = wr := ⟨_, rfl⟩
        by_cases hlt2 : t < q
        · obtain ⟨r, hr⟩ : ∃ r, ns[t]? = some r := ⟨ns[t]'(by rw [HQ.out]; exact hlt2), List.getElem?_eq_getElem (by rw [HQ.out]; exact hlt2)⟩
          have hrm := List.mem_of_getElem? hr
          have hrh := HMEM.out r hrm
          have hnt := HN2.out.mt.ownsRow HNROW.out (by decide)
          have hnrow := names_row (by rw [HQ.out]; exact hnt) (by rw [HQ.out]; omega)
          obtain ⟨nb, no, ncc, hnv, _, _, hnl, hnce⟩ := hnrow.get (i := t) (x := [.string ⟨r.toArray⟩]) (by simp [hr, encStr])
          rw [List.length_map, HQ.out] at hnv
          simp only [Value.slice.injEq, true_and] at hnv
          obtain ⟨rfl, rfl⟩ := hnv
          have q0 := hnce 0 _ rfl
          simp only [Nat.add_zero, Nat.mul_one] at q0
          have hkl := strKl r (by
            obtain ⟨c, hc, hcr⟩ := hasN_iff.1 hrh
            rw [← hcr]
            exact HZ.out c hc)
          have hmapt := HNM9.out.map
          have hmt0 : wt.ownsMap Tryz.prog 9 sliceR w.heap.size k D := by
            obtain ⟨es, cl, h1, h2⟩ := hmapt
            exact ⟨es, cl, ((keeps_of_mt HN2.out.mt).2 _ _ h1 rfl), h2⟩
          have HMT := Lib.hid hmt0
          have HR := Lib.hid hr
          have hdt : decide ((t : Int) < 0) = false := by simp
          have hdq : decide ((q : Int) ≤ (t : Int)) = false := by simp; omega
          have hrest := HN2.out.rest r (by rw [List.drop_eq_getElem_cons (List.getElem?_eq_some_iff.1 hr).1, (List.getElem?_eq_some_iff.1 hr).2]; exact List.mem_cons_self)
          have hpos := nmL_pos hrh
          have hle := nmL_le r l
          rw [HN.out] at hle
          have hlen0 : (netC (nmL r l)).length = (nmL r l).length := netnm_len r l
          have hat0 := HNM9.out.at_ r hrh
          have hblk := (hrest.block (g := blk r) rfl)
          have hfl := flat_take (S := fun r => netC (nmL r l)) ns (t + 1)
          rw [HCODE.out, flat_succ hr, List.length_append, HOL.out, hlen0] at hfl
          have hcl := netC_len l
          rw [HN.out] at hcl
          generalize hm : (nmL r l).length = m at *
          have HRS := Lib.hid hrest
          have HMM := Lib.hid hm
          have HL0 := Lib.hid hlen0
          have HAT0 := Lib.hid hat0
          have HRH := Lib.hid hrh
          clear hrm hrh hnt hnrow hnce hmapt hmt0 hr hrest hm hlen0 hat0
          go_wp2_with (at_lookup; refine wpList_lookup_own _ rfl _ _ 80 rfl 9 22 Tryz.strKey Tryz.underlying80 sliceR (zeroChgs _) (.agg []) [] rfl w.heap.size k D rfl HMT.out _ _ rfl hkl ?_)
          intro v0 ps0 hv0
          rw [HAT0.out] at hv0
          obtain rfl := sliceR_some hv0
          clear hv0
          go_wp2_with fail
          refine (sortC_any w.heap.size wt (blk r) m (cp r) (nmL r l) HRS.out HMM.out hpos (by omega) (fun d hd => HRW.out d (nmL_mem hd))).mono ?_
          rintro e w5 ⟨rfl, s, hp, hpw, hown5, hmod5, hmt5⟩
          have hseq : s = netC (nmL r l) := sorted_net (fun c hc => nmL_rel hc) (nmL_ok r l).apart hp hpw
          subst hseq
          have hoo := HN2.out.own.kv (KV.mt hmt5) hmod5 (fun g hg e => by have := HN2.out.far g hg; have := ((HNM9.out.own r HRH.out).block (g := blk r) rfl).2.1; omega)
          obtain ⟨rs, hrs, hrsA⟩ := hown5
          obtain ⟨rows, hro, hra⟩ := hoo
          rw [HL0.out] at hrs
          rw [HOL.out] at hro
          have hrl := hrsA.length
          rw [HL0.out] at hrl
          have h33 : ∀ x ∈ rs, x.length = 3 := by
            intro y hy
            obtain ⟨x, _, rv, rfl, _⟩ := all2_mem hrsA y hy
            rfl
          have hfl3 := flatten_len h33
          rw [hrl] at hfl3
          have hone : ∀ u ∈ rs.flatten, u.oneCell' = true := by
            intro u hu
            obtain ⟨y, hy, hu⟩ := List.mem_flatten.1 hu
            obtain ⟨x, _, rv, rfl, hrv⟩ := all2_mem hrsA y hy
            obtain ⟨ua, uc, rfl⟩ := own_sl hrv
            simp only [List.mem_cons, List.not_mem_nil, or_false] at hu
            rcases hu with rfl | rfl | rfl <;> rfl
          have hnews : ∀ (j : Nat) u, rs.flatten[j]? = some u → w5.cell? ((⟨blk r, 0, none⟩ : Addr).add j) = some u := by
            intro j u hu
            have hj := (List.getElem?_eq_some_iff.1 hu).1
            have e1 : (⟨blk r, 0, none⟩ : Addr).add j = ⟨blk r, j, none⟩ := by
              unfold Addr.add
              split <;> simp_all
            rw [e1, hrs.cellAt j (by omega), hu]
          have hs5 := hmod5.size
          have hN2s := HN2.out.mt.size
          have HRO := Lib.hid hro
          have HRA := Lib.hid hra
          have HRSA := Lib.hid hrsA
          have HRSO := Lib.hid hrs
          have HM5 := Lib.hid (And.intro hmod5 hmt5)
          clear hp hpw hmod5 hmt5 hrs hro hra hrsA h33 q0
          go_wp2_with (at_builtin; refine wpList_append_lies _ rfl (.tmp 51) (.tmp 52) 22 rfl w.heap.size 30 ic (.agg #[.bool false, .string ⟨#[]⟩, .slice none 0 0]) 3 48 Tryz.underlying22 hic hc0 hc1 hc2 rfl (by decide) (.slice oa ol oc) ol _ rfl HRO.out ⟨blk r, 0, none⟩ m (cp r) rs.flatten rfl hfl3 hnews hone hpos ?v3 ?v5 ?v4 _ rfl ?_)
          case v3 => unfold maxLen; omega
          case v5 => omega
          case v4 => omega
          intro g8 cap8 wj hown8 hgrow8 hat8 hlt8
          have hst := Net2.step HN2.out HNM9.out HND.out HR.out HMEM.out hwz9 HM5.out.1 HM5.out.2 HRA.out HRSA.out HOL.out HL0.out ⟨rows, by rw [HOL.out]; exact HRO.out, HRA.out⟩ hgrow8 hat8 hown8
          have HS2 := Lib.hid hst
          clear hown8 hgrow8 hat8 hlt8 hst hfl3 hnews hone
          go_wp2_with fail
          go_roundw
          case rel => exact ⟨t + 1, some ⟨g8, 0, none⟩, ol + m, cap8, by omega, by go_num, rfl, Lib.hid (by rw [flat_succ HR.out, List.length_append, HOL.out, HL0.out]), HS2⟩
          case measure => simp [intOf]; omega
        · obtain rfl : t = q := by omega
          have hown := HN2.out.own
          rw [List.take_of_length_le (by rw [HQ.out]; exact Nat.le_refl _), HCODE.out] at hown
          have HO := Lib.hid hown
          clear hown
          go_wp2_with fail
          go_ret
          exact ⟨_, rfl, HO.out, HN2.out.bel⟩
end Go.Proofs.YtgjknekoehfdfaaGreatDoor
