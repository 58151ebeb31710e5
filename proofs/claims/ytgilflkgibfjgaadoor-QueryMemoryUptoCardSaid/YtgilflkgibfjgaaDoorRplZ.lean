/- osierref09.Plain, walked. -/
import Derived.Test.YtgilflkgibfjgaaDoorQpcZ
import Derived.Test.YtgilflkgibfjgaaDoorCqoZ
import Derived.Test.YtgilflkgibfjgaaDoorApZ
import Derived.Test.YtgilflkgibfjgaaDoorLe
import Derived.Test.YtgilflkgibfjgaaDoorGg
import Derived.Deep.RegionHeld3
import Derived.Deep.RegionLaw
namespace Go.Proofs.YtgilflkgibfjgaaDoor
open Go.RowKit
set_option linter.unusedVariables false

theorem vNo_eq {L : List (List UInt8)} {s : List UInt8} (h : s ∈ L) : idxI L s = (L.idxOf s : Int) ∧ vNo L s = 118 :: Lib.decDigits (L.idxOf s) := by
  refine ⟨by unfold idxI; rw [if_pos h], ?_⟩
  unfold vNo Lib.itoa
  rw [if_neg (by omega)]
  rfl
set_option maxHeartbeats 1000000 in
set_option maxRecDepth 100000 in
theorem refPlain_ret {g : Nat} {W : World} {x y z : Value} {T : Array Value} {Post : Ending → World → Prop} (h : Blk W g 25 #[x, y, z]) (h2 : T[2]?.getD undef = .pointer (some ⟨g, 0, none⟩))
    (hP : Post (.returned (.agg #[x, y, z])) W) : bodyPost Tryd.prog Tryd.f17 Post Exit.ret { tmps := T, defers := [] } W := by
  have c0 := h.cell 0
  have c1 := h.cell 1
  have c2 := h.cell 2
  simp only [List.getElem?_toArray, List.getElem?_cons_zero, List.getElem?_cons_succ] at c0 c1 c2
  exact bodyPost_ret (v := .agg #[x, y, z]) (by simp [results, Tryd.results17, go_sem, h2, c0, c1, c2]) rfl hP

theorem own_slen {B : Nat} {w : World} {a : Option Addr} {n c : Nat} {l : List (List UInt8)} (h : OwnS B w (.slice a n c) l) : l.length = n := by
  rcases h.2 with ⟨h0, h1⟩ | ⟨g, cap, cur, h0, _⟩
  · simp only [Value.slice.injEq] at h0
    omega
  · simp only [Value.slice.injEq] at h0
    omega
theorem addN_in {L : List (List UInt8)} {s : List UInt8} (h : s ∈ L) : addN L s = L := by
  unfold addN
  exact if_pos h
theorem addN_out {L : List (List UInt8)} {s : List UInt8} (h : s ∉ L) : addN L s = L ++ [s] := by
  unfold addN
  exact if_neg h
/-- The heads told so far. -/
def midH (S hd : List (List UInt8)) (j : Nat) : List (List UInt8) := (hd.take j).map (vNo S) ++ hd.drop j
theorem midH_zero (S hd : List (List UInt8)) : midH S hd 0 = hd := by simp [midH]
theorem midH_all {S hd : List (List UInt8)} {n : Nat} (h : hd.length = n) : midH S hd n = hd.map (vNo S) := by
  subst h
  simp [midH]
theorem midH_len (S hd : List (List UInt8)) (j : Nat) : (midH S hd j).length = hd.length := by
  simp only [midH, List.length_append, List.length_map, List.length_take, List.length_drop]
  omega
theorem midH_step {S hd : List (List UInt8)} {j : Nat} {s : List UInt8} (h : hd[j]? = some s) : midH S hd (j + 1) = (midH S hd j).set j (vNo S s) := by
  have hj := (List.getElem?_eq_some_iff.1 h).1
  unfold midH
  rw [List.set_append_right _ _ (by simp; omega), List.take_add_one, h]
  simp only [List.length_map, List.length_take, Nat.min_eq_left (Nat.le_of_lt hj), Nat.sub_self]
  rw [List.drop_eq_getElem_cons hj, List.set_cons_zero]
  simp
theorem mt_ownB {w w' : World} {g n cap base sz : Nat} {e : TypeId} {xs : List Value} (hm : Mod (fun j => j = g) w w') (ho : w.ownsRow base e sz (.slice (some ⟨g, 0, none⟩) n cap) n xs) : MT base [e] w w' := by
  rcases ho.2 with ⟨h0, _⟩ | ⟨g', cap', cur, hv, hb, hh, _⟩
  · simp at h0
  · simp only [Value.slice.injEq, Option.some.injEq, Addr.mk.injEq, and_true, true_and] at hv
    obtain ⟨rfl, rfl⟩ := hv
    exact MT.ofMod hm hh (by simp) hb
theorem str_cons (c : UInt8) (T : List UInt8) : (ByteArray.mk #[c] ++ ByteArray.mk T.toArray) = ⟨(c :: T).toArray⟩ := by
  apply ByteArray.ext
  simp
theorem all2_ofGet {α β : Type} {R : β → α → Prop} : ∀ {bs : List β} {al : List α}, bs.length = al.length → (∀ (i : Nat) (b : β) (a : α), bs[i]? = some b → al[i]? = some a → R b a) → All2 R bs al
  | [], [], _, _ => trivial
  | [], _ :: _, h, _ => by simp at h
  | _ :: _, [], h, _ => by simp at h
  | b :: bs, a :: al, h, hr => ⟨hr 0 b a rfl rfl, all2_ofGet (by simpa using h) fun i x y hx hy => hr (i + 1) x y (by simpa using hx) (by simpa using hy)⟩
theorem Aprt.ne {rows : List (List Value)} (h : Aprt rows) {i j : Nat} {x y : List Value} (hi : rows[i]? = some x) (hj : rows[j]? = some y) (hne : i ≠ j) {k : Nat} (hk : (tvOf x).ownBlock = some k) : (tvOf y).ownBlock ≠ some k := by
  have hil := (List.getElem?_eq_some_iff.1 hi).1
  have hjl := (List.getElem?_eq_some_iff.1 hj).1
  have hp := List.pairwise_iff_getElem.1 h
  rcases Nat.lt_or_gt_of_ne hne with hlt | hlt
  · have := hp i j hil hjl hlt
    rw [(List.getElem?_eq_some_iff.1 hi).2, (List.getElem?_eq_some_iff.1 hj).2] at this
    exact this k hk
  · have := hp j i hjl hil hlt
    rw [(List.getElem?_eq_some_iff.1 hi).2, (List.getElem?_eq_some_iff.1 hj).2] at this
    intro hy
    exact this k hy hk
/-- A term of the k-th atom told anew. -/
theorem atms_set {B : Nat} {w w' : World} {rows : List (List Value)} {al : List Atm} {k tg n tc : Nat} {rel : List UInt8} {a : Atm} (h : All2 (AtmO B w) rows al) (hap : Aprt rows) (hm : Mod (fun j => j = tg) w w') (hk : rows[k]? = some [.string ⟨rel.toArray⟩, .slice (some ⟨tg, 0, none⟩) n tc])
    (ha : AtmO B w' [.string ⟨rel.toArray⟩, .slice (some ⟨tg, 0, none⟩) n tc] a) : All2 (AtmO B w') rows (al.set k a) := by
  refine all2_ofGet (by rw [List.length_set]; exact h.length) fun i b x hb hx => ?_
  by_cases hik : k = i
  · subst hik
    have hkl := (List.getElem?_eq_some_iff.1 hk).1
    rw [List.getElem?_set_self (by rw [← h.length]; exact hkl)] at hx
    rw [hk] at hb
    simp only [Option.some.injEq] at hb hx
    subst hb hx
    exact ha
  · rw [List.getElem?_set_ne hik] at hx
    obtain ⟨b', hb', hr⟩ := h.get hx
    rw [hb] at hb'
    simp only [Option.some.injEq] at hb'
    subst hb'
    obtain ⟨tv, rfl, ho⟩ := hr
    refine ⟨tv, rfl, hm.ownsRow ho fun q hq e => ?_⟩
    subst e
    exact hap.ne hk hb hik (k := q) rfl hq
def midA (S : List (List UInt8)) (al : List Atm) (k : Nat) : List Atm := (al.take k).map (pAt S) ++ al.drop k
theorem midA_zero (S : List (List UInt8)) (al : List Atm) : midA S al 0 = al := by simp [midA]
theorem midA_all {S : List (List UInt8)} {al : List Atm} {n : Nat} (h : al.length = n) : midA S al n = al.map (pAt S) := by
  subst h
  simp [midA]
theorem midA_len (S : List (List UInt8)) (al : List Atm) (k : Nat) : (midA S al k).length = al.length := by
  simp only [midA, List.length_append, List.length_map, List.length_take, List.length_drop]
  omega
theorem midA_get {S : List (List UInt8)} {al : List Atm} {k : Nat} {a : Atm} (h : al[k]? = some a) : (midA S al k)[k]? = some a := by
  have hj := (List.getElem?_eq_some_iff.1 h).1
  unfold midA
  rw [List.getElem?_append_right (by simp; omega)]
  simp only [List.length_map, List.length_take, Nat.min_eq_left (Nat.le_of_lt hj), Nat.sub_self]
  rw [List.getElem?_drop]
  simpa using h
theorem midA_step {S : List (List UInt8)} {al : List Atm} {k : Nat} {a : Atm} (h : al[k]? = some a) : midA S al (k + 1) = (midA S al k).set k (pAt S a) := by
  have hj := (List.getElem?_eq_some_iff.1 h).1
  unfold midA
  rw [List.set_append_right _ _ (by simp; omega), List.take_add_one, h]
  simp only [List.length_map, List.length_take, Nat.min_eq_left (Nat.le_of_lt hj), Nat.sub_self]
  rw [List.drop_eq_getElem_cons hj, List.set_cons_zero]
  simp
/-- The boxes of the argument and of the result. -/
structure PlB (w W : World) (QC : Array Value) : Prop where
  qb : Blk W w.heap.size 25 QC
  rb : Blk W (w.heap.size + 1) 25 #[.string ⟨#[]⟩, .slice none 0 0, .slice none 0 0]
  bel : Below w.heap.size w W
theorem PlB.keep {w W W' : World} {QC : Array Value} (h : PlB w W QC) (hb : Below W.heap.size W W') : PlB w W' QC := ⟨h.qb.below hb h.qb.lt, h.rb.below hb h.rb.lt, h.bel.trans (hb.mono h.bel.size)⟩
theorem PlB.mt {w W W' : World} {QC : Array Value} {Ts : List TypeId} (h : PlB w W QC) (hm : MT w.heap.size Ts W W') (ht : 25 ∉ Ts) : PlB w W' QC := ⟨h.qb.mt hm ht, h.rb.mt hm ht, h.bel.trans (hm.below h.bel.size)⟩

set_option maxHeartbeats 16000000 in
set_option maxRecDepth 100000 in
theorem refPlain_any (w : World) (name : ByteArray) (hv av : Value) (hd : List (List UInt8)) (al : List Atm) (h1 : StrsAt w hv hd) (h2 : AtomsAt w av al) (hn : al.length ≤ 1048576) (hs : tsum al ≤ 1048576) (hh : hd.length ≤ 1048576) :
    Calls Tryd.prog 17 #[.agg #[.string name, hv, av]] w fun e w' => ∃ hv' av', e = .returned (.agg #[.string name, hv', av']) ∧ StrsAt w' hv' (plainQ ⟨name.data.toList, hd, al⟩).head ∧
      AtomsAt w' av' (plainQ ⟨name.data.toList, hd, al⟩).atoms ∧ Below w.heap.size w w' := by
  obtain ⟨is, his, hi0, hi1, hi2⟩ := info_parts Tryd.infoStP
  obtain ⟨ha, hc, rfl, hhc, hhm⟩ := h1.form
  obtain ⟨aa, ac, rfl, hac, ham⟩ := h2.form
  have hsm := h2.small
  obtain ⟨q, hq⟩ : ∃ q : Qry, q = ⟨name.data.toList, hd, al⟩ := ⟨_, rfl⟩
  obtain ⟨S, hS⟩ : ∃ S, S = seenQ q := ⟨_, rfl⟩
  have hph : (plainQ ⟨name.data.toList, hd, al⟩).head = hd.map (vNo S) := by rw [hS, hq]; rfl
  have hpa : (plainQ ⟨name.data.toList, hd, al⟩).atoms = al.map (pAt S) := by rw [hS, hq]; rfl
  rw [hph, hpa]
  have hpl := fun (i : Nat) (a : Atm) (h : q.atoms[i]? = some a) (j : Nat) => preA_len q i h j
  have hp0 := fun (i : Nat) (ts : List Trm) => preA_zero q i ts
  have hpn := fun (i : Nat) (a : Atm) (h : q.atoms[i]? = some a) => preA_next h
  have hps := fun (i j : Nat) (ts : List Trm) (t : Trm) (h : ts[j]? = some t) (hx : t.x = []) => preA_skip (q := q) (i := i) h hx
  have hpt := fun (i j : Nat) (ts : List Trm) (t : Trm) (h : ts[j]? = some t) (hx : t.x ≠ []) => (show preA q i ts (j + 1) = preA q i ts j ++ [t.x] by
    unfold preA
    rw [List.take_add_one, h]
    simp [varsL_snoc, hx])
  have hqh : q.head = hd := by rw [hq]
  have hqa : q.atoms = al := by rw [hq]
  have hold : oldQ q = hd ++ (al.take al.length).flatMap fun a => varsL a.ts := by rw [List.take_length, hq]; rfl
  have hmh : ∀ s ∈ hd, s ∈ S := fun s h => by rw [hS]; exact head_seen (by rw [hqh]; exact h)
  have hma : ∀ a ∈ al, ∀ t ∈ a.ts, t.x ≠ [] → t.x ∈ S := fun a ha t ht hx => by rw [hS]; exact var_seen (by rw [hqa]; exact ha) ht hx
  have holen : (oldQ q).length ≤ hd.length + tsum al := by
    rw [hold, List.take_length, List.length_append]
    have hv : ∀ ts : List Trm, (varsL ts).length ≤ ts.length := fun ts => by
      unfold varsL
      have := List.length_filter_le (fun x : List UInt8 => decide (x ≠ [])) (ts.map (·.x))
      simpa using this
    have hf : ∀ l : List Atm, (l.flatMap fun a => varsL a.ts).length ≤ tsum l := by
      intro l
      induction l with
      | nil => simp [tsum]
      | cons b l ih =>
        have := hv b.ts
        simp only [List.flatMap_cons, List.length_append, tsum, List.map_cons, List.sum_cons] at ih ⊢
        omega
    have := hf al
    omega
  have holb : (oldQ q).length ≤ 2097152 := by omega
  have hsl : S.length ≤ 2097152 := by
    rw [hS]
    have h1 := fold_len (oldQ q) []
    unfold seenQ
    simp only [List.length_nil] at h1
    omega
  have hsn : S = (oldQ q).foldl addN [] := hS
  rw [hqh] at hpl hp0 hpn
  rw [hqa] at hpl hp0 hpn
  have HPL := Lib.hid hpl
  have HP0 := Lib.hid hp0
  have HPN := Lib.hid hpn
  have HPS := Lib.hid hps
  have HPT := Lib.hid hpt
  have HOLD := Lib.hid hold
  have HMH := Lib.hid hmh
  have HMA := Lib.hid hma
  have HSN := Lib.hid hsn
  have HSL := Lib.hid hsl
  have HOLEN := Lib.hid holb
  have HH := Lib.hid h1
  have HA := Lib.hid h2
  have HSM := Lib.hid hsm
  have HTS := Lib.hid hs
  clear holen holb h1 h2 hsm hpl hp0 hpn hps hpt hqh hqa hold hmh hma hsn hsl hph hpa hS hq hs
  generalize hN : hd.length = n at *
  generalize hM : al.length = na at *
  have HN := Lib.hid hN
  have HM := Lib.hid hM
  clear hN hM
  unfold maxLen at hhm ham
  have hb0 : PlB w ((w.alloc (.cells #[.string name, .slice ha n hc, .slice aa na ac] 25)).alloc (.cells #[.string ⟨#[]⟩, .slice none 0 0, .slice none 0 0] 25)) #[.string name, .slice ha n hc, .slice aa na ac] :=
    ⟨(Blk.new w _ _).alloc _, blkNew1 _ _ _ _, balloc (balloc (Below.refl _ _) _) _⟩
  have HB0 := Lib.hid hb0
  have hrow := (HH.out.keep hb0.bel)
  have HROW : Hid (RowAt ((w.alloc (.cells #[.string name, .slice ha n hc, .slice aa na ac] 25)).alloc (.cells #[.string ⟨#[]⟩, .slice none 0 0, .slice none 0 0] 25)) (.slice ha n hc) 1 (hd.map strC)) := Lib.hid hrow
  have HCL := Lib.hid (strC_len hd)
  have HCO := Lib.hid (strC_one hd)
  have hcn : (hd.map strC).length = n := by rw [List.length_map, HN.out]
  have HCN := Lib.hid hcn
  clear hb0 hrow hcn
  go_enter Tryd.func17, Tryd.ntmps17
  go_wp2_with (at_builtin; refine wpList_append_row _ rfl (.tmp 12) (.tmp 14) 22 rfl w.heap.size 9 is (.string ⟨#[]⟩) 1 16 Tryd.underlying22 his hi0 hi1 hi2 rfl (by decide) (.slice none 0 0) 0 [] rfl (World.ownsRow_nil _ _ _ _) _ rfl _ HROW.out HCL.out HCO.out ?c1 ?c2 (by simp; omega) ?_)
  case c1 => rw [HCN.out]; unfold maxLen; omega
  case c2 => rw [HCN.out]; omega
  intro v1 w1 hown1 hgrow1
  rw [HN.out, strC_flat] at hown1
  obtain ⟨oa, oc, rfl⟩ := own_sl hown1
  have hgb : Below ((w.alloc (.cells #[.string name, .slice ha n hc, .slice aa na ac] 25)).alloc (.cells #[.string ⟨#[]⟩, .slice none 0 0, .slice none 0 0] 25)).heap.size _ w1 := Below.grown (Below.refl _ _) hgrow1 (Nat.le_refl _) (fun q hq => by simp [Value.ownBlock] at hq)
  have HB1 := Lib.hid (HB0.out.keep hgb)
  have HO1 : Hid (OwnS w.heap.size w1 (.slice oa n oc) (hd ++ (al.take 0).flatMap fun a => varsL a.ts)) := Lib.hid (by
    unfold OwnS
    rw [List.take_zero, List.flatMap_nil, List.append_nil, HN.out]
    exact hown1)
  clear hown1 hgrow1 hgb HB0 HROW
  go_wp2_with fail
  go_loopw [3, 4] (fun o i wr => ∃ (k : Nat) (oa : Option Addr) (ol oc : Nat), k ≤ na ∧ i = .int .i64 k ∧ o = .slice oa ol oc ∧ Hid (OwnS w.heap.size wr (.slice oa ol oc) (hd ++ (al.take k).flatMap fun a => varsL a.ts)) ∧ Hid (PlB w wr #[.string name, .slice ha n hc, .slice aa na ac])) (fun _ i _ => na - (intOf i).toNat)
  case atStart => exact ⟨0, oa, n, oc, Nat.zero_le _, rfl, rfl, HO1, HB1⟩
  case round =>
    obtain ⟨k, oa, ol, oc, hk, rfl, rfl, OW, PB⟩ := hrel
    obtain ⟨wo, rfl⟩ : ∃ wo : World, wo = wr := ⟨_, rfl⟩
    have x1 := PB.out.qb.cell 1
    have x2 := PB.out.qb.cell 2
    have xl := PB.out.qb.lt
    simp only [List.getElem?_toArray, List.getElem?_cons_zero, List.getElem?_cons_succ] at x1 x2
    by_cases hlt : k < na
    · obtain ⟨a, hak⟩ : ∃ a, al[k]? = some a := ⟨al[k]'(by rw [HM.out]; exact hlt), List.getElem?_eq_getElem (by rw [HM.out]; exact hlt)⟩
      have HAK := Lib.hid hak
      have how := OW.out
      rw [← HP0.out k a.ts] at how
      have HO2 := Lib.hid how
      clear how hak x1
      go_wp2_with fail
      go_loopw [3, 5] (fun o i wr => ∃ (j : Nat) (oa : Option Addr) (ol oc : Nat), j ≤ a.ts.length ∧ i = .int .i64 j ∧ o = .slice oa ol oc ∧ Hid (OwnS w.heap.size wr (.slice oa ol oc) (preA q k a.ts j)) ∧ Hid (PlB w wr #[.string name, .slice ha n hc, .slice aa na ac])) (fun _ i _ => a.ts.length - (intOf i).toNat)
      case atStart => exact ⟨0, oa, ol, oc, Nat.zero_le _, rfl, rfl, HO2, PB⟩
      case round =>
        obtain ⟨j, oa, ol, oc, hj, rfl, rfl, OW2, PB2⟩ := hrel
        obtain ⟨wq, rfl⟩ : ∃ wq : World, wq = wr := ⟨_, rfl⟩
        have x2 := PB2.out.qb.cell 2
        have xl := PB2.out.qb.lt
        simp only [List.getElem?_toArray, List.getElem?_cons_zero, List.getElem?_cons_succ] at x2
        obtain ⟨ab, ao, acp, tv, hav, _, _, hal, a0, a1, hts, htl⟩ := (HA.out.keep PB2.out.bel).get HAK.out
        rw [HM.out] at hav
        simp only [Value.slice.injEq, true_and] at hav
        obtain ⟨rfl, rfl⟩ := hav
        obtain ⟨tva, tvc, rfl, _, htm⟩ := hts.form
        rw [List.length_map] at *
        have hdk : decide ((k : Int) < 0) = false := by simp
        have hdn : decide ((na : Int) ≤ (k : Int)) = false := by simp; omega
        have HTR := Lib.hid hts
        clear hts
        generalize hTN : a.ts.length = tn at *
        have HTN := Lib.hid hTN
        clear hTN
        by_cases hjl : j < tn
        · obtain ⟨t, ht⟩ : ∃ t, a.ts[j]? = some t := ⟨a.ts[j]'(by rw [HTN.out]; exact hjl), List.getElem?_eq_getElem (by rw [HTN.out]; exact hjl)⟩
          obtain ⟨tb, tof, tcp, htv, _, _, htbl, htc⟩ := HTR.out.get (i := j) (x := t.cells) (by rw [List.getElem?_map, ht]; rfl)
          simp only [List.length_map, HTN.out, Value.slice.injEq, true_and] at htv
          obtain ⟨rfl, rfl⟩ := htv
          have t0 := htc 0 _ rfl
          simp only [Nat.add_zero] at t0
          have hdk2 : decide ((j : Int) < 0) = false := by simp
          have hdn2 : decide ((tn : Int) ≤ (j : Int)) = false := by simp; omega
          have HT := Lib.hid ht
          clear ht htc
          by_cases hx : t.x = []
          · rw [hx] at t0
            have how := OW2.out
            rw [← HPS.out k j a.ts t HT.out hx] at how
            have HO3 := Lib.hid how
            clear hx how
            go_wp2_with fail
            go_roundw
            case rel => exact ⟨j + 1, oa, ol, oc, by omega, by go_num, rfl, HO3, PB2⟩
            case measure => simp [intOf]; omega
          · have he := ba_empty hx
            have he2 : t.x.isEmpty = false := by
              cases hxx : t.x with
              | nil => exact absurd hxx hx
              | cons _ _ => rfl
            have he3 : (!t.x.isEmpty) = true := by rw [he2]; rfl
            have hpt := HPT.out k j a.ts t HT.out hx
            have hll := HPL.out k a HAK.out j
            have htsum := HTS.out
            have how := OW2.out
            unfold OwnS at how
            have hol : (preA q k a.ts j).length = ol := by
              rcases how.2 with ⟨h0, h1⟩ | ⟨g, cap, cur, h0, _⟩
              · simp only [Value.slice.injEq] at h0
                omega
              · simp only [Value.slice.injEq] at h0
                omega
            rw [hol] at how hll
            have HPTT := Lib.hid hpt
            have HOW2 := Lib.hid how
            have HOL := Lib.hid hol
            have hbnd : ol ≤ 2097152 := by omega
            clear hx hpt how htsum hol hll
            go_wp2_with (at_builtin; refine wpList_append_lies _ rfl (.tmp 45) (.tmp 56) 22 rfl w.heap.size 9 is (.string ⟨#[]⟩) 1 16 Tryd.underlying22 his hi0 hi1 hi2 rfl (by decide) (.slice oa ol oc) ol _ rfl (HOW2.out.alloc _) ⟨_, 0, none⟩ 1 1 [.string ⟨t.x.toArray⟩] rfl rfl (World.news_of_block (Blk.new _ _ _)) (by simp [Value.oneCell']) (by decide) ?c3 ?c5 ?c4 _ rfl ?_)
            case c3 => unfold maxLen; omega
            case c5 => omega
            case c4 => have := PB2.out.bel.size; simp; omega
            intro g3 cap3 w8 hown8 hgrow8 hat8 hlt8
            have m8 : MT w.heap.size [9] _ w8 := (MT.refl _).grown hgrow8 (HOW2.out.alloc (.cells #[.string ⟨t.x.toArray⟩] 9)) (by simp) (Nat.le_refl _)
            have HPB8 := Lib.hid ((PB2.out.keep (balloc (Below.refl _ _) (.cells #[.string ⟨t.x.toArray⟩] 9))).mt m8 (by decide))
            have HO8 : Hid (OwnS w.heap.size w8 (.slice (some ⟨g3, 0, none⟩) (ol + 1) cap3) (preA q k a.ts (j + 1))) := Lib.hid (by
              rw [HPTT.out]
              unfold OwnS
              rw [List.length_append, HOL.out, List.map_append]
              exact hown8)
            clear m8 hown8 hgrow8 hat8 hlt8
            go_wp2_with fail
            go_roundw
            case rel => exact ⟨j + 1, _, _, _, by omega, by go_num, rfl, HO8, HPB8⟩
            case measure => simp [intOf]; omega
        · obtain rfl : j = tn := by omega
          have how := OW2.out
          have hpn := HPN.out k a HAK.out
          rw [HTN.out] at hpn
          rw [hpn] at how
          have HO3 := Lib.hid how
          clear how hpn
          go_wp2_with fail
          go_roundw
          case rel => exact ⟨k + 1, oa, ol, oc, by omega, by go_num, rfl, HO3, PB2⟩
          case measure => simp [intOf]; omega
    · obtain rfl : na = k := by omega
      have how := OW.out
      have hold := HOLD.out
      rw [← hold] at how
      have HO3 := Lib.hid how
      clear how hold
      have hol : (oldQ q).length = ol := own_slen HO3.out
      have holb : ol ≤ 2097152 := by
        have h2 := HOLEN.out
        omega
      have hos : StrsAt wo (.slice oa ol oc) (oldQ q) := OwnS.strs HO3.out (by omega)
      obtain ⟨O, hO⟩ : ∃ O, oldQ q = O := ⟨_, rfl⟩
      have hsn := HSN.out
      rw [hO] at hol hos hsn
      have HOS := Lib.hid hos
      have HOL := Lib.hid hol
      have HSN2 := Lib.hid hsn
      clear hO HSN HO3 hos hol hsn OW
      go_wp2_with fail
      go_loopw [6, 7] (fun o i wr => ∃ (k : Nat) (sa : Option Addr) (sl sc : Nat), k ≤ ol ∧ i = .int .i64 k ∧ o = .slice sa sl sc ∧ Hid (OwnS wo.heap.size wr (.slice sa sl sc) ((O.take k).foldl addN [])) ∧ Hid (Below wo.heap.size wo wr)) (fun _ i _ => ol - (intOf i).toNat)
      case atStart => exact ⟨0, none, 0, 0, Nat.zero_le _, rfl, rfl, Lib.hid (World.ownsRow_nil _ _ _ _), Lib.hid (Below.refl _ _)⟩
      case round =>
        obtain ⟨j, sa, sl, sc, hj, rfl, rfl, OW, BW⟩ := hrel
        obtain ⟨wq, rfl⟩ : ∃ wq : World, wq = wr := ⟨_, rfl⟩
        by_cases hjl : j < ol
        · obtain ⟨s, hs⟩ : ∃ s, O[j]? = some s := ⟨O[j]'(by rw [HOL.out]; exact hjl), List.getElem?_eq_getElem (by rw [HOL.out]; exact hjl)⟩
          obtain ⟨sb, so, scp, hsv, _, _, hsl, hs0⟩ := (HOS.out.keep BW.out).get hs
          rw [HOL.out] at hsv
          simp only [Value.slice.injEq, true_and] at hsv
          obtain ⟨rfl, rfl⟩ := hsv
          have hll := own_slen OW.out
          have hfl := fold_len (O.take j) []
          rw [hll, List.length_take, HOL.out] at hfl
          simp only [List.length_nil] at hfl
          have hin := refIn_any wq _ _ s (OwnS.strs OW.out (by rw [hll]; omega))
          have hdk : decide ((j : Int) < 0) = false := by simp
          have hdn : decide ((ol : Int) ≤ (j : Int)) = false := by simp; omega
          have hstep : (O.take (j + 1)).foldl addN [] = addN ((O.take j).foldl addN []) s := by
            rw [List.take_add_one, hs]
            exact fold_snoc _ _
          have HSTEP := Lib.hid hstep
          have HLL := Lib.hid hll
          have hslb : sl ≤ 2097152 := by omega
          clear hs hll hfl hstep
          by_cases hm : s ∈ (O.take j).foldl addN []
          · rw [decide_eq_true hm] at hin
            have hadd : addN ((O.take j).foldl addN []) s = (O.take j).foldl addN [] := addN_in hm
            have HADD := Lib.hid hadd
            have HIN := Lib.hid hin
            clear hm hin hadd
            go_wp2_with fail
            refine HIN.out.mono ?_
            rintro e w6 ⟨rfl, rfl⟩
            go_wp2_with fail
            go_roundw
            case rel => exact ⟨j + 1, sa, sl, sc, by omega, by go_num, rfl, by rw [HSTEP.out, HADD.out]; exact OW, BW⟩
            case measure => simp [intOf]; omega
          · rw [decide_eq_false hm] at hin
            have hadd : addN ((O.take j).foldl addN []) s = (O.take j).foldl addN [] ++ [s] := addN_out hm
            have HADD := Lib.hid hadd
            have HIN := Lib.hid hin
            have how := OW.out
            unfold OwnS at how
            rw [HLL.out] at how
            have HOW2 := Lib.hid how
            clear hm hin hadd how
            go_wp2_with fail
            refine HIN.out.mono ?_
            rintro e w6 ⟨rfl, rfl⟩
            go_wp2_with (at_builtin; refine wpList_append_lies _ rfl (.tmp 71) (.tmp 76) 22 rfl wo.heap.size 9 is (.string ⟨#[]⟩) 1 16 Tryd.underlying22 his hi0 hi1 hi2 rfl (by decide) (.slice sa sl sc) sl _ rfl (HOW2.out.alloc _) ⟨_, 0, none⟩ 1 1 [.string ⟨s.toArray⟩] rfl rfl (World.news_of_block (Blk.new _ _ _)) (by simp [Value.oneCell']) (by decide) ?d3 ?d5 ?d4 _ rfl ?_)
            case d3 => unfold maxLen; omega
            case d5 => omega
            case d4 => have := BW.out.size; simp; omega
            intro g3 cap3 w8 hown8 hgrow8 hat8 hlt8
            have hb8 : Below wo.heap.size wo w8 := (balloc BW.out (.cells #[.string ⟨s.toArray⟩] 9)).grown hgrow8 (by have := BW.out.size; simp; omega) (fun q hq => (HOW2.out.lt q hq).1)
            have HB8 := Lib.hid hb8
            have HO8 : Hid (OwnS wo.heap.size w8 (.slice (some ⟨g3, 0, none⟩) (sl + 1) cap3) ((O.take (j + 1)).foldl addN [])) := Lib.hid (by
              rw [HSTEP.out, HADD.out]
              unfold OwnS
              rw [List.length_append, HLL.out, List.map_append]
              exact hown8)
            clear hb8 hown8 hgrow8 hat8 hlt8
            go_wp2_with fail
            go_roundw
            case rel => exact ⟨j + 1, _, _, _, by omega, by go_num, rfl, HO8, HB8⟩
            case measure => simp [intOf]; omega
        · obtain rfl : ol = j := by omega
          have how := OW.out
          rw [List.take_of_length_le (by rw [HOL.out]; exact Nat.le_refl _), ← HSN2.out] at how
          have hpb := PB.out.keep BW.out
          have HO4 := Lib.hid how
          have HPB4 := Lib.hid hpb
          have x0 := hpb.qb.cell 0
          have x1 := hpb.qb.cell 1
          have x2 := hpb.qb.cell 2
          have xl := hpb.qb.lt
          simp only [List.getElem?_toArray, List.getElem?_cons_zero, List.getElem?_cons_succ] at x0 x1 x2
          have HCP := Lib.hid (copyO_any wq name _ _ hd al (HH.out.keep hpb.bel) (HA.out.keep hpb.bel) (by rw [HM.out]; omega))
          clear how hpb HOS HSN2 OW PB
          go_wp2_with fail
          refine HCP.out.mono ?_
          rintro e w5 ⟨hv5, av5, rows, rfl, hoh, hoa, hal5, hap, hb5⟩
          obtain ⟨ja, jc, rfl⟩ := own_sl (show World.ownsRow _ _ _ _ _ _ _ from hoh)
          obtain ⟨za, zc, rfl⟩ := own_sl hoa
          have hlh := own_slen hoh
          have hb6 : Below wq.heap.size wq (w5.alloc (.cells #[.string name, .slice ja hd.length jc, .slice za al.length zc] 25)) := balloc hb5 _
          have hob := Blk.new w5 25 #[.string name, .slice ja hd.length jc, .slice za al.length zc]
          have hz5 := hb5.size
          have HOB := Lib.hid hob
          have HB6 := Lib.hid hb6
          have HOH : Hid (OwnS wq.heap.size (w5.alloc (.cells #[.string name, .slice ja hd.length jc, .slice za al.length zc] 25)) (.slice ja hd.length jc) (midH S hd 0)) := Lib.hid (by rw [midH_zero]; exact World.ownsRow.alloc (show World.ownsRow _ _ _ _ _ _ _ from hoh) _)
          have HOA := Lib.hid (hoa.alloc (.cells #[.string name, .slice ja hd.length jc, .slice za al.length zc] 25))
          have hb7 : Below w5.heap.size w5 (w5.alloc (.cells #[.string name, .slice ja hd.length jc, .slice za al.length zc] 25)) := balloc (Below.refl _ _) _
          have HAL5 := Lib.hid (hal5.mono fun b x hh => hh.mt (MT.ofBelow (B := 0) (Ts := []) hb7) (by simp))
          have HAP := Lib.hid hap
          clear hlh hb6 hob hoh hoa hal5 hap hb5 hb7 HCP x0 x1 x2
          rw [HN.out] at HOB HB6 HOH HOA HAL5
          rw [HM.out] at HOB HB6 HOH HOA HAL5
          rw [HN.out, HM.out]
          go_wp2_with fail
          go_loopw [9] (fun i wr => ∃ k : Nat, k ≤ n ∧ i = .int .i64 k ∧ Hid (OwnS wq.heap.size wr (.slice ja n jc) (midH S hd k)) ∧ Hid (Blk wr w5.heap.size 25 #[.string name, .slice ja n jc, .slice za na zc]) ∧ Hid (wr.ownsRow wq.heap.size 33 2 (.slice za na zc) na rows.flatten ∧ All2 (AtmO wq.heap.size wr) rows al) ∧ Hid (Below wq.heap.size wq wr)) (fun i _ => n - (intOf i).toNat)
          case atStart => exact ⟨0, Nat.zero_le _, rfl, HOH, HOB, Lib.hid ⟨HOA.out, HAL5.out⟩, HB6⟩
          case round =>
            obtain ⟨k, hk, rfl, OH, OB, OA, BW⟩ := hrel
            obtain ⟨wt, rfl⟩ : ∃ wt : World, wt = wr := ⟨_, rfl⟩
            have c1 := OB.out.cell 1
            have cl := OB.out.lt
            simp only [List.getElem?_toArray, List.getElem?_cons_zero, List.getElem?_cons_succ] at c1
            by_cases hlt : k < n
            · obtain ⟨s, hs⟩ : ∃ s, hd[k]? = some s := ⟨hd[k]'(by rw [HN.out]; exact hlt), List.getElem?_eq_getElem (by rw [HN.out]; exact hlt)⟩
              have hpb := HPB4.out.keep BW.out
              have b1 := hpb.qb.cell 1
              have bl := hpb.qb.lt
              simp only [List.getElem?_toArray, List.getElem?_cons_zero, List.getElem?_cons_succ] at b1
              obtain ⟨sb, so, scp, hsv, _, _, hsl, hs0⟩ := (HH.out.keep hpb.bel).get hs
              rw [HN.out] at hsv
              simp only [Value.slice.injEq, true_and] at hsv
              obtain ⟨rfl, rfl⟩ := hsv
              have how := OH.out
              unfold OwnS at how
              rw [midH_len, HN.out] at how
              obtain ⟨g, cap, hgv, hgb, hgl⟩ := how.form (by omega)
              simp only [Value.slice.injEq, true_and] at hgv
              obtain ⟨rfl, rfl⟩ := hgv
              obtain ⟨⟨y0, hy0⟩, hyf, _⟩ := own_cell (k := k) (j := 0) how hlt (by decide)
              simp only [Nat.mul_one, Nat.add_zero] at hy0 hyf
              obtain ⟨hix, hvn⟩ := vNo_eq (HMH.out s (List.mem_of_getElem? hs))
              have hml := List.idxOf_le_length (a := s) (l := S)
              have hsl2 := HSL.out
              have hsn := own_slen HO4.out
              have hat := refAt_any wt.drew _ S s ((OwnS.strs HO4.out (by rw [hsn]; omega)).keep (bdrew BW.out))
              rw [hix] at hat
              obtain ⟨m, hm⟩ : ∃ m, S.idxOf s = m := ⟨_, rfl⟩
              rw [hm] at hat hvn hml
              have hdg := fun W' => digits_any m W' (by omega)
              have hdl : (Lib.decDigits m).length ≤ 20 := by rw [Lib.decDigits_length]; exact Lib.nDigits_le20 m (by omega)
              obtain ⟨T, hT⟩ : ∃ T, Lib.decDigits m = T := ⟨_, rfl⟩
              rw [hT] at hdg hvn hdl
              have hov : ¬ 9223372036854775807 < 1 + T.length := by omega
              have hm0 : IntKind.u64.wrap (m : Int) = (m : Int) := by
                unfold IntKind.wrap
                simp [IntKind.signed, IntKind.bits]
                omega
              have hdk : decide ((k : Int) < 0) = false := by simp
              have hdn : decide ((n : Int) ≤ (k : Int)) = false := by simp; omega
              have HAT := Lib.hid hat
              have HDG := Lib.hid hdg
              have HVN := Lib.hid hvn
              have HS := Lib.hid hs
              have HOW := Lib.hid how
              clear hs hpb how hix hvn hsn hat hm hdg hT hsl2 hdl
              go_wp2_with fail
              go_region_law (first
                | (go_simp; go_at_call 59; refine HAT.out.mono ?_; rintro e w6 ⟨rfl, rfl⟩)
                | (go_simp; go_at_call 58; refine (HDG.out _).mono ?_; rintro e w7 ⟨rfl, hb7⟩; have B7 : Below wt.heap.size wt w7 := bt2 (bdrew (Below.refl _ _)) hb7; have c17 := (B7.cell (p := ⟨w5.heap.size, 1, none⟩) cl).trans c1; have hy07 := (B7.cell (p := ⟨g, k, none⟩) hgl).trans hy0; have hyf7 := (B7.frozen (p := ⟨g, k, none⟩) hgl).trans hyf; have hgl7 := Nat.lt_of_lt_of_le hgl B7.size; have HB7 := Lib.hid B7; clear B7 hb7))
              all_goals
                have hw7 := (MT.ofBelow (B := 0) (Ts := []) HB7.out).ownsRow HOW.out (by simp)
                have hst := (hw7.stored k (.string ⟨(vNo S s).toArray⟩)).1
                have hms : ((midH S hd k).map fun s => Value.string ⟨s.toArray⟩).set k (.string ⟨(vNo S s).toArray⟩) = (midH S hd (k + 1)).map fun s => Value.string ⟨s.toArray⟩ := by
                  rw [midH_step HS.out, List.map_set]
                rw [hms] at hst
                have mst : Mod (fun j => j = g) w7 (w7.setCell ⟨g, k, none⟩ (.string ⟨(vNo S s).toArray⟩)) := (Mod.refl (fun j => j = g) w7).setCell (p := ⟨g, k, none⟩) (fun _ => rfl) _
                have mm : MT wq.heap.size [9] wt (w7.setCell ⟨g, k, none⟩ (.string ⟨(vNo S s).toArray⟩)) := (MT.ofBelow HB7.out).trans (mt_ownB mst hw7)
                have hoh : OwnS wq.heap.size (w7.setCell ⟨g, k, none⟩ (.string ⟨(vNo S s).toArray⟩)) (.slice (some ⟨g, 0, none⟩) n jc) (midH S hd (k + 1)) := by
                  unfold OwnS
                  rw [midH_len, HN.out]
                  exact hst
                have HOH2 := Lib.hid hoh
                have HOB2 := Lib.hid (OB.out.mt mm (by decide))
                have HOA2 := Lib.hid (And.intro (mm.ownsRow OA.out.1 (by decide)) (OA.out.2.mono fun b x hh => hh.mt mm (by decide)))
                have HBW2 := Lib.hid (BW.out.trans (mm.below BW.out.size))
                clear hw7 hst hms mst mm hoh hy07 hyf7 c17
                rw [str_cons, ← HVN.out]
                go_wp2_with fail
                go_roundw
                case rel => exact ⟨k + 1, by omega, by go_num, HOH2, HOB2, HOA2, HBW2⟩
                case measure => simp [intOf]; omega
            · obtain rfl : n = k := by omega
              have hoh := OH.out
              rw [midH_all HN.out] at hoh
              have hoa : wt.ownsRow wq.heap.size 33 2 (.slice za na zc) na rows.flatten ∧ All2 (AtmO wq.heap.size wt) rows (midA S al 0) := by rw [midA_zero]; exact OA.out
              have HOH2 := Lib.hid hoh
              have HOA2 := Lib.hid hoa
              have HRL : Hid (rows.length = na ∧ ∀ x ∈ rows, x.length = 2) := Lib.hid ⟨by rw [OA.out.2.length, HM.out], fun x hx => by
                obtain ⟨a, _, tv, rfl, _⟩ := all2_mem OA.out.2 x hx
                rfl⟩
              clear hoh hoa OH OA
              go_wp2_with fail
              go_loopw [10] (fun i wr => ∃ k : Nat, k ≤ na ∧ i = .int .i64 k ∧ Hid (OwnS wq.heap.size wr (.slice ja n jc) (hd.map (vNo S))) ∧ Hid (Blk wr w5.heap.size 25 #[.string name, .slice ja n jc, .slice za na zc]) ∧ Hid (wr.ownsRow wq.heap.size 33 2 (.slice za na zc) na rows.flatten ∧ All2 (AtmO wq.heap.size wr) rows (midA S al k)) ∧ Hid (Below wq.heap.size wq wr)) (fun i _ => na - (intOf i).toNat)
              case atStart => exact ⟨0, Nat.zero_le _, rfl, HOH2, OB, HOA2, BW⟩
              case round =>
                obtain ⟨k, hk, rfl, OH, OB, OA, BW⟩ := hrel
                obtain ⟨wt, rfl⟩ : ∃ wt : World, wt = wr := ⟨_, rfl⟩
                have c2 := OB.out.cell 2
                have cl := OB.out.lt
                simp only [List.getElem?_toArray, List.getElem?_cons_zero, List.getElem?_cons_succ] at c2
                by_cases hlt : k < na
                · obtain ⟨a, hak⟩ : ∃ a, al[k]? = some a := ⟨al[k]'(by rw [HM.out]; exact hlt), List.getElem?_eq_getElem (by rw [HM.out]; exact hlt)⟩
                  have hset0 : (midA S al k).set k ⟨a.rel, midT S a.ts 0⟩ = midA S al k := by
                    rw [midT_zero]
                    obtain ⟨hl, he⟩ := List.getElem?_eq_some_iff.1 (midA_get (S := S) hak)
                    have := @List.set_getElem_self _ (midA S al k) k hl
                    rw [he] at this
                    exact this
                  have hoa0 := OA.out
                  rw [← hset0] at hoa0
                  have HOA0 := Lib.hid hoa0
                  have HAK := Lib.hid hak
                  clear hset0 hoa0 hak
                  go_wp2_with fail
                  go_loopw [11] (fun i wr => ∃ j : Nat, j ≤ a.ts.length ∧ i = .int .i64 j ∧ Hid (OwnS wq.heap.size wr (.slice ja n jc) (hd.map (vNo S))) ∧ Hid (Blk wr w5.heap.size 25 #[.string name, .slice ja n jc, .slice za na zc]) ∧ Hid (wr.ownsRow wq.heap.size 33 2 (.slice za na zc) na rows.flatten ∧ All2 (AtmO wq.heap.size wr) rows ((midA S al k).set k ⟨a.rel, midT S a.ts j⟩)) ∧ Hid (Below wq.heap.size wq wr)) (fun i _ => a.ts.length - (intOf i).toNat)
                  case atStart => exact ⟨0, Nat.zero_le _, rfl, OH, OB, HOA0, BW⟩
                  case round =>
                    obtain ⟨j, hj, rfl, OH, OB, OA, BW⟩ := hrel
                    obtain ⟨wu, rfl⟩ : ∃ wu : World, wu = wr := ⟨_, rfl⟩
                    have c2 := OB.out.cell 2
                    have cl := OB.out.lt
                    simp only [List.getElem?_toArray, List.getElem?_cons_zero, List.getElem?_cons_succ] at c2
                    have hkl : k < (midA S al k).length := by rw [midA_len, HM.out]; exact hlt
                    obtain ⟨row, hrow, tv, hrv, hot⟩ := OA.out.2.get (i := k) (List.getElem?_set_self hkl)
                    subst hrv
                    have hot' : wu.ownsRow wq.heap.size 47 4 tv a.ts.length ((midT S a.ts j).map Trm.cells).flatten := by
                      have := hot
                      rw [show (Atm.mk a.rel (midT S a.ts j)).ts = midT S a.ts j from rfl, midT_len, ← map_flat] at this
                      exact this
                    obtain ⟨ta, tc, rfl⟩ := own_sl hot'
                    have hoa := OA.out.1
                    obtain ⟨zg, zcap, hzv, hzb, hzl⟩ := hoa.form (by omega)
                    simp only [Value.slice.injEq, true_and] at hzv
                    obtain ⟨rfl, rfl⟩ := hzv
                    have z1 := (hoa.cellAt (k * 2 + 1) (by omega)).trans (flatten_at HRL.out.2 hrow (j := 1) rfl)
                    have hdk : decide ((k : Int) < 0) = false := by simp
                    have hdn : decide ((na : Int) ≤ (k : Int)) = false := by simp; omega
                    have HOT := Lib.hid hot'
                    have HROW := Lib.hid hrow
                    have htsm := HSM.out a (List.mem_of_getElem? HAK.out)
                    clear hot hot' hoa hrow hkl
                    generalize hTN : a.ts.length = tn at *
                    have HTN := Lib.hid hTN
                    clear hTN
                    by_cases hjl : j < tn
                    · obtain ⟨t, ht⟩ : ∃ t, a.ts[j]? = some t := ⟨a.ts[j]'(by rw [HTN.out]; exact hjl), List.getElem?_eq_getElem (by rw [HTN.out]; exact hjl)⟩
                      obtain ⟨tg, tcap, htv, htb, htl⟩ := HOT.out.form (by omega)
                      simp only [Value.slice.injEq, true_and] at htv
                      obtain ⟨rfl, rfl⟩ := htv
                      have hrj : ((midT S a.ts j).map Trm.cells)[j]? = some t.cells := by rw [List.getElem?_map, midT_get ht]; rfl
                      have t0 := (HOT.out.cellAt (j * 4) (by omega)).trans (by simpa using flatten_at (trm_len _) hrj (j := 0) rfl)
                      have tf := HOT.out.frozenAt (j * 4)
                      have hdk2 : decide ((j : Int) < 0) = false := by simp
                      have hdn2 : decide ((tn : Int) ≤ (j : Int)) = false := by simp; omega
                      have HT := Lib.hid ht
                      have HRJ := Lib.hid hrj
                      clear ht hrj
                      by_cases hx : t.x = []
                      · rw [hx] at t0
                        have HX := Lib.hid hx
                        clear hx
                        go_wp2_with fail
                        go_roundw
                        case rel => exact ⟨j + 1, by omega, by go_num, OH, OB, by rw [midT_same HT.out HX.out]; exact OA, BW⟩
                        case measure => simp [intOf]; omega
                      · have he := ba_empty hx
                        have he2 : t.x.isEmpty = false := by
                          cases hxx : t.x with
                          | nil => exact absurd hxx hx
                          | cons _ _ => rfl
                        have he3 : (!t.x.isEmpty) = true := by rw [he2]; rfl
                        have hpb := HPB4.out.keep BW.out
                        have b2 := hpb.qb.cell 2
                        have bl := hpb.qb.lt
                        simp only [List.getElem?_toArray, List.getElem?_cons_zero, List.getElem?_cons_succ] at b2
                        obtain ⟨ab, ao, acp, qv, hav, _, _, hal, a0, a1, hqt, _⟩ := (HA.out.keep hpb.bel).get HAK.out
                        rw [HM.out] at hav
                        simp only [Value.slice.injEq, true_and] at hav
                        obtain ⟨rfl, rfl⟩ := hav
                        obtain ⟨qb, qo, qcp, hqv, _, _, hql, hqc⟩ := hqt.get (i := j) (x := t.cells) (by rw [List.getElem?_map, HT.out]; rfl)
                        simp only [List.length_map, HTN.out] at hqv
                        subst hqv
                        have q0 := hqc 0 _ rfl
                        simp only [Nat.add_zero] at q0
                        obtain ⟨hix, hvn⟩ := vNo_eq (HMA.out a (List.mem_of_getElem? HAK.out) t (List.mem_of_getElem? HT.out) hx)
                        have hml := List.idxOf_le_length (a := t.x) (l := S)
                        have hsl2 := HSL.out
                        have hsn := own_slen HO4.out
                        have hat := refAt_any wu.drew _ S t.x ((OwnS.strs HO4.out (by rw [hsn]; omega)).keep (bdrew BW.out))
                        rw [hix] at hat
                        obtain ⟨m, hm⟩ : ∃ m, S.idxOf t.x = m := ⟨_, rfl⟩
                        rw [hm] at hat hvn hml
                        have hdg := fun W' => digits_any m W' (by omega)
                        have hdl : (Lib.decDigits m).length ≤ 20 := by rw [Lib.decDigits_length]; exact Lib.nDigits_le20 m (by omega)
                        obtain ⟨T, hT⟩ : ∃ T, Lib.decDigits m = T := ⟨_, rfl⟩
                        rw [hT] at hdg hvn hdl
                        have hov : ¬ 9223372036854775807 < 1 + T.length := by omega
                        have hm0 : IntKind.u64.wrap (m : Int) = (m : Int) := by
                          unfold IntKind.wrap
                          simp [IntKind.signed, IntKind.bits]
                          omega
                        have hpt : pTm S t = ⟨vNo S t.x, t.k, t.n, t.t⟩ := if_neg hx
                        have HAT := Lib.hid hat
                        have HDG := Lib.hid hdg
                        have HVN := Lib.hid hvn
                        have HPTM := Lib.hid hpt
                        clear hx hpb hix hvn hsn hat hm hdg hT hsl2 hdl hqt hqc hpt
                        go_wp2_with fail
                        go_region_law (first
                          | (go_simp; go_at_call 59; refine HAT.out.mono ?_; rintro e w6 ⟨rfl, rfl⟩)
                          | (go_simp; go_at_call 58; refine (HDG.out _).mono ?_; rintro e w7 ⟨rfl, hb7⟩; have B7 : Below wu.heap.size wu w7 := bt2 (bdrew (Below.refl _ _)) hb7; have c27 := (B7.cell (p := ⟨w5.heap.size, 2, none⟩) cl).trans c2; have z17 := (B7.cell (p := ⟨zg, k * 2 + 1, none⟩) hzl).trans z1; have t07 := (B7.cell (p := ⟨tg, j * 4, none⟩) htl).trans t0; have tf7 := (B7.frozen (p := ⟨tg, j * 4, none⟩) htl).trans tf; have cl7 := Nat.lt_of_lt_of_le cl B7.size; have hzl7 := Nat.lt_of_lt_of_le hzl B7.size; have htl7 := Nat.lt_of_lt_of_le htl B7.size; have HB7 := Lib.hid B7; clear B7 hb7))
                        all_goals
                          have hw7 := (MT.ofBelow (B := 0) (Ts := []) HB7.out).ownsRow HOT.out (by simp)
                          have hst := (hw7.stored (j * 4) (.string ⟨(vNo S t.x).toArray⟩)).1
                          rw [flat_setP (by decide) _ j _ _ (trm_len _) HRJ.out] at hst
                          have hrow2 : ((midT S a.ts j).map Trm.cells).set j (t.cells.set 0 (.string ⟨(vNo S t.x).toArray⟩)) = (midT S a.ts (j + 1)).map Trm.cells := by
                            rw [midT_step HT.out, HPTM.out, List.map_set]
                            rfl
                          rw [hrow2] at hst
                          have mst : Mod (fun i => i = tg) w7 (w7.setCell ⟨tg, j * 4, none⟩ (.string ⟨(vNo S t.x).toArray⟩)) := (Mod.refl (fun i => i = tg) w7).setCell (p := ⟨tg, j * 4, none⟩) (fun _ => rfl) _
                          have mall : Mod (fun i => i = tg) wu (w7.setCell ⟨tg, j * 4, none⟩ (.string ⟨(vNo S t.x).toArray⟩)) := (Mod.ofBelow HB7.out).trans mst (fun i _ e => e)
                          have mm : MT wq.heap.size [47] wu (w7.setCell ⟨tg, j * 4, none⟩ (.string ⟨(vNo S t.x).toArray⟩)) := (MT.ofBelow HB7.out).trans (mt_ownB mst hw7)
                          have hato : AtmO wq.heap.size (w7.setCell ⟨tg, j * 4, none⟩ (.string ⟨(vNo S t.x).toArray⟩)) [.string ⟨a.rel.toArray⟩, .slice (some ⟨tg, 0, none⟩) tn tc] ⟨a.rel, midT S a.ts (j + 1)⟩ := ⟨_, rfl, by
                            show World.ownsRow _ _ _ _ _ (midT S a.ts (j + 1)).length ((midT S a.ts (j + 1)).flatMap Trm.cells)
                            rw [midT_len, HTN.out, ← map_flat]
                            exact hst⟩
                          have hal2 := atms_set OA.out.2 HAP.out mall HROW.out hato
                          rw [List.set_set] at hal2
                          have HOH2 := Lib.hid (show OwnS wq.heap.size _ _ _ from mm.ownsRow OH.out (by decide))
                          have HOB2 := Lib.hid (OB.out.mt mm (by decide))
                          have HOA2 := Lib.hid (And.intro (mm.ownsRow OA.out.1 (by decide)) hal2)
                          have HBW2 := Lib.hid (BW.out.trans (mm.below BW.out.size))
                          clear hw7 hst hrow2 mst mall mm hato hal2 t07 tf7 c27 z17
                          rw [str_cons, ← HVN.out]
                          go_wp2_with fail
                          go_roundw
                          case rel => exact ⟨j + 1, by omega, by go_num, HOH2, HOB2, HOA2, HBW2⟩
                          case measure => simp [intOf]; omega
                    · obtain rfl : tn = j := by omega
                      have hoa2 := OA.out
                      have e1 : midT S a.ts tn = a.ts.map (pTm S) := by rw [← HTN.out]; exact midT_all S a.ts
                      rw [e1, show (Atm.mk a.rel (a.ts.map (pTm S))) = pAt S a from rfl, ← midA_step HAK.out] at hoa2
                      have HOA3 := Lib.hid hoa2
                      clear hoa2 e1
                      go_wp2_with fail
                      go_roundw
                      case rel => exact ⟨k + 1, by omega, by go_num, OH, OB, HOA3, BW⟩
                      case measure => simp [intOf]; omega
                · obtain rfl : na = k := by omega
                  have hoa := OA.out
                  rw [midA_all HM.out] at hoa
                  have hpb := HPB4.out.keep BW.out
                  have c0 := OB.out.cell 0
                  have c1 := OB.out.cell 1
                  simp only [List.getElem?_toArray, List.getElem?_cons_zero, List.getElem?_cons_succ] at c0 c1
                  have HOA2 := Lib.hid hoa
                  have HPB5 := Lib.hid hpb
                  clear hoa hpb OA
                  go_wp2_with (refine wpList_store_blk rfl 25 _ _ rfl (w.heap.size + 1) 25 _ _ rfl rfl HPB5.out.rb (by kernel_rfl) rfl (by simp [Value.oneCell']) ?_)
                  intro w9 hb9 hm9 hz9
                  have m9 : MT w.heap.size [25] wt w9 := MT.ofMod hm9 HPB5.out.rb (by simp) (by omega)
                  have hh9 : OwnS wq.heap.size w9 (.slice ja n jc) (hd.map (vNo S)) := m9.ownsRow OH.out (by decide)
                  have ho9 := m9.ownsRow HOA2.out.1 (by decide)
                  have ha9 := HOA2.out.2.mono fun b x hh => hh.mt m9 (by decide)
                  have HS9 := Lib.hid (hh9.strs (by rw [List.length_map, HN.out]; omega))
                  have HA9 := Lib.hid (atomsRowG ho9 (by rw [List.length_map, HM.out]) ha9 (by rw [List.length_map, HM.out]; omega) (fun x hx => by
                    obtain ⟨b, hb, rfl⟩ := List.mem_map.1 hx
                    have := HSM.out b hb
                    show (b.ts.map (pTm S)).length ≤ _
                    rw [List.length_map]
                    exact this))
                  have HB9 := Lib.hid hb9
                  have HBL9 := Lib.hid (HPB5.out.bel.trans (m9.below HPB5.out.bel.size))
                  clear hb9 hm9 hz9 m9 hh9 ho9 ha9 c0 c1
                  go_wp2_with (exact refPlain_ret HB9.out rfl ⟨_, _, rfl, HS9.out, HA9.out, HBL9.out⟩)
end Go.Proofs.YtgilflkgibfjgaaDoor
