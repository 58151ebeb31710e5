/- osierref10.Net, walked. What change.Net makes, plainly: of each name the last change of each row; the names in their order; all together it is the document's Net. -/
import Derived.Test.YtgjknekoehfdfaaGreatDoorNa
import Derived.Test.YtgjknekoehfdfaaGreatDoorBe
import Derived.Deep.RegionHeld3
import Derived.Deep.RegionLaw
import Derived.BigQuiet
namespace Go.Proofs.YtgjknekoehfdfaaGreatDoor
open Go.RowKit
set_option linter.unusedVariables false

/-- The list that Net makes: its rows are the copy's. -/
def NetP (B : Nat) (w0 w : World) (v : Value) (p : Nat) (ys : List Chg) : Prop :=
  ∃ rows : List (List Value), w.ownsRow B 30 3 v p rows.flatten ∧ All2 (ChgC w0) rows ys ∧ ys.length = p
def NetO (B : Nat) (w0 w : World) (v : Value) (ys : List Chg) : Prop := NetP B w0 w v ys.length ys
theorem NetP.at {w0 w : World} {v : Value} {p : Nat} {ys : List Chg} (h : NetP w0.heap.size w0 w v p ys) (hb : Below w0.heap.size w0 w) (hl : p ≤ 8796093022208) : ChgsAt w v ys := by
  obtain ⟨rows, h1, h2, h3⟩ := h
  have hll := h2.length
  refine ⟨rows, RowAt.ofOwn h1 (by omega) ?_ (by omega), h2.mono fun b x hh => hh.keep hb⟩
  intro c hc
  obtain ⟨x, _, rv, rfl, _⟩ := all2_mem h2 c hc
  rfl
theorem NetP.low {B : Nat} {w0 w w' : World} {v : Value} {p : Nat} {ys : List Chg} (h : NetP B w0 w v p ys) (hb : Below w.heap.size w w') : NetP B w0 w' v p ys := by
  obtain ⟨rows, h1, h2, h3⟩ := h
  exact ⟨rows, (MT.ofBelow (B := 0) (Ts := []) hb).ownsRow h1 (by simp), h2, h3⟩
theorem insR_length : ∀ (r : List Chg) (x : Chg), (insR r x).length = r.length + 1
  | [], _ => rfl
  | y :: r, x => by
    unfold insR
    by_cases h : aheadC x y = true
    · rw [if_pos h, List.length_cons, insR_length r x, List.length_cons]
    · rw [if_neg h, List.length_cons]
theorem insC_length (l : List Chg) (x : Chg) : (insC l x).length = l.length + 1 := by
  unfold insC
  rw [List.length_reverse, insR_length, List.length_reverse]
/-- The list while x goes down: t stand ahead of it. -/
def mid (ys : List Chg) (t : Nat) (x : Chg) : List Chg := ys.take t ++ x :: ys.drop t
def insAt (ys : List Chg) (t : Nat) (x : Chg) : List Chg := (insR (ys.take t).reverse x).reverse ++ ys.drop t
theorem insAt_zero (ys : List Chg) (x : Chg) : insAt ys 0 x = mid ys 0 x := rfl
theorem insAt_all (ys : List Chg) (x : Chg) : insAt ys ys.length x = insC ys x := by
  unfold insAt insC
  rw [List.take_length, List.drop_length, List.append_nil]
theorem insAt_step {ys : List Chg} {t : Nat} {x y : Chg} (h : ys[t]? = some y) : insAt ys (t + 1) x = if aheadC x y then insAt ys t x else mid ys (t + 1) x := by
  have ht := (List.getElem?_eq_some_iff.1 h).1
  have hy := (List.getElem?_eq_some_iff.1 h).2
  have h1 : (ys.take (t + 1)).reverse = y :: (ys.take t).reverse := by
    rw [List.take_add_one, h]
    simp
  have h2 : ys.drop t = y :: ys.drop (t + 1) := by rw [List.drop_eq_getElem_cons ht, hy]
  unfold insAt mid
  rw [h1, show insR (y :: (ys.take t).reverse) x = if aheadC x y = true then y :: insR (ys.take t).reverse x else x :: y :: (ys.take t).reverse from rfl]
  by_cases h0 : aheadC x y = true
  · rw [if_pos h0, if_pos h0, h2]
    simp
  · rw [if_neg h0, if_neg h0, ← h1]
    simp
theorem mid_at {ys : List Chg} {t : Nat} {x : Chg} (h : t ≤ ys.length) : (mid ys t x)[t]? = some x := by
  unfold mid
  rw [List.getElem?_append_right (by rw [List.length_take]; omega)]
  simp [List.length_take, Nat.min_eq_left h]
theorem mid_below {ys : List Chg} {t : Nat} {x y : Chg} (h : ys[t]? = some y) : (mid ys (t + 1) x)[t]? = some y := by
  have ht := (List.getElem?_eq_some_iff.1 h).1
  unfold mid
  rw [List.getElem?_append_left (by rw [List.length_take]; omega), List.getElem?_take_of_lt (by omega), h]

theorem mid_swap {ys : List Chg} {t : Nat} {x y : Chg} (h : ys[t]? = some y) : ((mid ys (t + 1) x).set (t + 1) y).set t x = mid ys t x := by
  have ht := (List.getElem?_eq_some_iff.1 h).1
  have hy := (List.getElem?_eq_some_iff.1 h).2
  have h2 : ys.drop t = y :: ys.drop (t + 1) := by rw [List.drop_eq_getElem_cons ht, hy]
  have h3 : ys.take (t + 1) = ys.take t ++ [y] := by rw [List.take_add_one, h]; rfl
  have hl : (ys.take t).length = t := by rw [List.length_take]; omega
  unfold mid
  rw [h2, h3]
  generalize ys.take t = A at *
  generalize ys.drop (t + 1) = B at *
  subst hl
  simp
theorem all2_set {α β : Type} {R : α → β → Prop} : ∀ {l : List α} {m : List β} (i : Nat) {a : α} {b : β}, All2 R l m → R a b → All2 R (l.set i a) (m.set i b)
  | [], [], _, _, _, _, _ => trivial
  | _ :: _, _ :: _, 0, _, _, h, hr => ⟨hr, h.2⟩
  | _ :: _, _ :: _, i + 1, _, _, h, hr => ⟨h.1, all2_set i h.2 hr⟩
  | [], _ :: _, _, _, _, h, _ => h.elim
  | _ :: _, [], _, _, _, h, _ => h.elim

/-- Two changes beside each other exchanged. -/
theorem NetP.swap {w0 w W : World} {g cap p t tt : Nat} {ys : List Chg} {c d : Chg} {A1 A2 : Option Addr} {n1 n2 k1 k2 : Nat} (htt : t + 1 = tt) (h : NetP w0.heap.size w0 w (.slice (some ⟨g, 0, none⟩) p cap) p (mid ys tt c)) (hd : ys[t]? = some d) (hp : tt < p)
    (h1 : ChgC w0 [.bool c.add, .string ⟨c.rel.toArray⟩, .slice A1 n1 k1] c) (h2 : ChgC w0 [.bool d.add, .string ⟨d.rel.toArray⟩, .slice A2 n2 k2] d) (hb : Below w0.heap.size w0 w)
    (hW : W = (((((w.setCell ⟨g, tt * 3, none⟩ (.bool d.add)).setCell ⟨g, tt * 3 + 1, none⟩ (.string ⟨d.rel.toArray⟩)).setCell ⟨g, tt * 3 + 2, none⟩ (.slice A2 n2 k2)).setCell ⟨g, t * 3, none⟩ (.bool c.add)).setCell ⟨g, t * 3 + 1, none⟩ (.string ⟨c.rel.toArray⟩)).setCell ⟨g, t * 3 + 2, none⟩ (.slice A1 n1 k1)) :
    NetP w0.heap.size w0 W (.slice (some ⟨g, 0, none⟩) p cap) p (mid ys t c) ∧ Below w0.heap.size w0 W := by
  subst htt
  subst hW
  obtain ⟨rows, n1', n2', n3⟩ := h
  have hll := n2'.length
  have h33 : ∀ x ∈ rows, x.length = 3 := by
    intro r hr
    obtain ⟨x, _, rv, rfl, _⟩ := all2_mem n2' r hr
    rfl
  have hg : w0.heap.size ≤ g := by
    rcases n1'.2 with ⟨h0, _⟩ | ⟨g', cap', cur, hv, hb', _⟩
    · simp at h0
    · simp only [Value.slice.injEq, Option.some.injEq, Addr.mk.injEq, and_true, true_and] at hv
      obtain ⟨rfl, rfl⟩ := hv
      exact hb'
  have hs1 := own_set3 (a := .bool d.add) (b := .string ⟨d.rel.toArray⟩) (c := .slice A2 n2 k2) n1' h33 (by omega) (k := t + 1) hp rfl rfl rfl
  have hs2 := own_set3 (a := .bool c.add) (b := .string ⟨c.rel.toArray⟩) (c := .slice A1 n1 k1) hs1.1 (set_all h33 rfl) (by rw [List.length_set]; omega) (k := t) (by omega) rfl rfl rfl
  have hall := all2_set t (all2_set (t + 1) n2' h2) h1
  rw [mid_swap (x := c) hd] at hall
  refine ⟨⟨_, hs2.1, hall, ?_⟩, Mod.own (Mod.own hb hs1.2 hg) hs2.2 hg⟩
  have := hall.length
  rw [List.length_set, List.length_set] at this
  omega

/-- The cells of two changes that are compared. -/
def KD (p q : Addr) (c d : Chg) (rv ru : Value) (W0 W : World) : Prop :=
  W.cell? p = some (.bool c.add) ∧ W.cell? ⟨p.block, p.off + 1, none⟩ = some (.string ⟨c.rel.toArray⟩) ∧ W.cell? ⟨p.block, p.off + 2, none⟩ = some rv ∧
  W.cell? q = some (.bool d.add) ∧ W.cell? ⟨q.block, q.off + 1, none⟩ = some (.string ⟨d.rel.toArray⟩) ∧ W.cell? ⟨q.block, q.off + 2, none⟩ = some ru ∧ Below W0.heap.size W0 W
theorem KD.step {p q : Addr} {c d : Chg} {rv ru : Value} {W0 W W' : World} (h : KD p q c d rv ru W0 W) (h1 : p.block < W0.heap.size) (h2 : q.block < W0.heap.size) (hb : Below W.heap.size W W') : KD p q c d rv ru W0 W' := by
  obtain ⟨k0, k1, k2, k3, k4, k5, k6⟩ := h
  have hz := k6.size
  exact ⟨(hb.cell (by omega)).trans k0, (hb.cell (p := ⟨p.block, p.off + 1, none⟩) (by simp only; omega)).trans k1, (hb.cell (p := ⟨p.block, p.off + 2, none⟩) (by simp only; omega)).trans k2, (hb.cell (by omega)).trans k3, (hb.cell (p := ⟨q.block, q.off + 1, none⟩) (by simp only; omega)).trans k4, (hb.cell (p := ⟨q.block, q.off + 2, none⟩) (by simp only; omega)).trans k5, k6.trans (hb.mono hz)⟩

set_option maxHeartbeats 8000000 in
set_option maxRecDepth 100000 in
theorem refNet_any (w : World) (v : Value) (l : List Chg) (h : ChgsAt w v l) (hn : l.length ≤ 2932031007402) (hT : ∀ c ∈ l, c.rel.length ≤ 281474976710656 ∧ ∀ u ∈ c.row, u.t.length ≤ 281474976710656) :
    Calls Tryz.prog 17 #[v] w fun e w' => ∃ v', e = .returned v' ∧ ChgsAt w' v' (netC l) ∧ Below w.heap.size w w' := by
  obtain ⟨ic, hic, hc0, hc1, hc2⟩ := info_parts Tryz.infoChg
  have hnot : ∀ (x : Bool) (w : World), (Op.unary .not (.bool x)).run Tryz.prog w = .ok (.bool (!x)) w := fun _ _ => rfl
  have hrows := h.rows
  have hcp := copyB_any w v l h hn
  have HCP := Lib.hid hcp
  have HRW := Lib.hid hrows
  have HT := Lib.hid hT
  clear h hcp hrows hT
  generalize hN : l.length = n at *
  have HN := Lib.hid hN
  clear hN
  go_enter Tryz.func17, Tryz.ntmps17
  go_wp2_with fail
  refine HCP.out.mono ?_
  rintro e w1 ⟨v1, rfl, hown, hb1⟩
  have hat := hown.at (by rw [HN.out]; omega) HRW.out
  obtain ⟨a1, c1, rfl, hac, ham⟩ := hat.form
  rw [HN.out] at hac hat hown ⊢
  unfold maxLen at ham
  have HA := Lib.hid hat
  have HB1 := Lib.hid hb1
  clear hat hown hb1 HCP
  go_wp2_with fail
  go_loopw [4, 5] (fun vo i wr => ∃ (k : Nat) (ys : List Chg) (oa : Option Addr) (oc : Nat), k ≤ n ∧ ys.length ≤ k ∧ vo = .slice oa ys.length oc ∧ i = .int .i64 k ∧ Hid (netGo ys (l.drop k) = netC l) ∧ Hid (NetO w1.heap.size w1 wr (.slice oa ys.length oc) ys) ∧ Hid (Below w1.heap.size w1 wr)) (fun _ i _ => n - (intOf i).toNat)
  case atStart => exact ⟨0, [], none, 0, Nat.zero_le _, Nat.le_refl _, rfl, rfl, Lib.hid rfl, Lib.hid ⟨[], World.ownsRow_nil _ _ _ _, trivial, rfl⟩, Lib.hid (Below.refl _ _)⟩
  case round =>
    obtain ⟨k, ys, oa, oc, hk, hyk, rfl, rfl, HG, HO, BW⟩ := hrel
    obtain ⟨wo, rfl⟩ : ∃ wo : World, wo = wr := ⟨_, rfl⟩
    by_cases hlt : k < n
    · obtain ⟨c, hc⟩ : ∃ c, l[k]? = some c := ⟨l[k]'(by rw [HN.out]; exact hlt), List.getElem?_eq_getElem (by rw [HN.out]; exact hlt)⟩
      have HC := Lib.hid hc
      obtain ⟨LA, hLA⟩ : ∃ LA, LA = !((l.drop (k + 1)).any (alikeC c)) := ⟨_, rfl⟩
      have HLA := Lib.hid hLA
      have HI0 := Lib.hid (show (true && !((l.drop (k + 1)).any (alikeC c))) = LA by rw [hLA, Bool.true_and])
      clear hc hLA
      have hdk : decide ((k : Int) < 0) = false := by simp
      have hdn : decide ((n : Int) ≤ (k : Int)) = false := by simp; omega
      go_wp2_with fail
      go_loopw [6, 7] (fun la j wr => ∃ (m : Nat) (lb : Bool), k + 1 ≤ m ∧ m ≤ n ∧ la = .bool lb ∧ j = .int .i64 m ∧ Hid ((lb && !((l.drop m).any (alikeC c))) = LA) ∧ Hid (Below wo.heap.size wo wr)) (fun _ j _ => n - (intOf j).toNat)
      case atStart => exact ⟨k + 1, true, Nat.le_refl _, by omega, rfl, by go_num, HI0, Lib.hid (Below.refl _ _)⟩
      case round =>
        obtain ⟨m, lb, hkm, hmn, rfl, rfl, HI, BI⟩ := hrel
        obtain ⟨wi, rfl⟩ : ∃ wi : World, wi = wr := ⟨_, rfl⟩
        clear HI0
        by_cases hmt : m < n
        · obtain ⟨d, hd⟩ : ∃ d, l[m]? = some d := ⟨l[m]'(by rw [HN.out]; exact hmt), List.getElem?_eq_getElem (by rw [HN.out]; exact hmt)⟩
          have hst : (l.drop m).any (alikeC c) = (alikeC c d || (l.drop (m + 1)).any (alikeC c)) := by
            rw [List.drop_eq_getElem_cons (List.getElem?_eq_some_iff.1 hd).1, (List.getElem?_eq_some_iff.1 hd).2]
            rfl
          have hbi := BW.out.trans (BI.out.mono BW.out.size)
          obtain ⟨b1, o1, cc1, rv, hv1, _, _, hl1, q0, q1, q2, hr1, _⟩ := (HA.out.keep hbi).get HC.out
          obtain ⟨b2, o2, cc2, ru, hv2, _, _, hl2, p0, p1, p2, hr2, _⟩ := (HA.out.keep hbi).get hd
          rw [HN.out] at hv1 hv2
          simp only [Value.slice.injEq, true_and] at hv1 hv2
          obtain ⟨rfl, rfl⟩ := hv1
          simp only [Option.some.injEq, Addr.mk.injEq, and_true] at hv2
          obtain ⟨⟨rfl, rfl⟩, rfl⟩ := hv2
          obtain ⟨r1a, r1c, rfl, _, _⟩ := hr1.form
          obtain ⟨r2a, r2c, rfl, _, _⟩ := hr2.form
          have hdm : decide ((m : Int) < 0) = false := by simp
          have hdl : decide ((n : Int) ≤ (m : Int)) = false := by simp; omega
          have HAL : Hid (∀ W, KD ⟨b1, o1 + k * 3, none⟩ ⟨b1, o1 + m * 3, none⟩ c d (.slice r1a (c.row.map Vl.cells).length r1c) (.slice r2a (d.row.map Vl.cells).length r2c) wi W → Calls Tryz.prog 40 #[.agg #[.bool c.add, .string ⟨c.rel.toArray⟩, .slice r1a (c.row.map Vl.cells).length r1c], .agg #[.bool d.add, .string ⟨d.rel.toArray⟩, .slice r2a (d.row.map Vl.cells).length r2c]] W fun e w' => e = .returned (.bool (alikeC c d)) ∧ KD ⟨b1, o1 + k * 3, none⟩ ⟨b1, o1 + m * 3, none⟩ c d (.slice r1a (c.row.map Vl.cells).length r1c) (.slice r2a (d.row.map Vl.cells).length r2c) wi w') :=
            Lib.hid fun W h => (alikeC_any W c d _ _ (hr1.keep h.2.2.2.2.2.2) (hr2.keep h.2.2.2.2.2.2)).mono fun e w' hh => ⟨hh.1, h.step hl1 hl2 hh.2⟩
          unfold KD at HAL
          rw [hst] at HI
          have hbW := Below.refl wi.heap.size wi
          clear hr1 hr2 hd hst hbi
          generalize (c.row.map Vl.cells).length = rn at *
          generalize (d.row.map Vl.cells).length = rm at *
          obtain ⟨ak, hak⟩ : ∃ ak, alikeC c d = ak := ⟨_, rfl⟩
          rw [hak] at HAL HI
          clear hak
          cases lb with
          | true =>
            go_wp2_with fail
            go_region_held3 (fun w' => w'.cell? ⟨b1, o1 + k * 3, none⟩ = some (.bool c.add) ∧ w'.cell? ⟨b1, o1 + k * 3 + 1, none⟩ = some (.string ⟨c.rel.toArray⟩) ∧ w'.cell? ⟨b1, o1 + k * 3 + 2, none⟩ = some (.slice r1a rn r1c) ∧ w'.cell? ⟨b1, o1 + m * 3, none⟩ = some (.bool d.add) ∧ w'.cell? ⟨b1, o1 + m * 3 + 1, none⟩ = some (.string ⟨d.rel.toArray⟩) ∧ w'.cell? ⟨b1, o1 + m * 3 + 2, none⟩ = some (.slice r2a rm r2c) ∧ Below wi.heap.size wi w')
              (first | exact hK | (go_split_ands; refine ⟨?_, ?_, ?_, ?_, ?_, ?_, ?_⟩ <;> first | exact bdrew (by assumption) | assumption | go_keep))
              (first | (go_at_call 40; go_split_ands; refine (HAL.out _ ⟨by assumption, by assumption, by assumption, by assumption, by assumption, by assumption, by assumption⟩).mono ?_; rintro e w' ⟨rfl, hK⟩))
            all_goals go_split_ands
            all_goals
              have hbn : Below wo.heap.size wo _ := BI.out.trans (Below.mono (by assumption) BI.out.size)
              go_wp2_with fail
              go_roundw
              case rel => exact ⟨m + 1, !ak, by omega, by omega, rfl, by go_num, Lib.hid (by have := HI.out; cases ak <;> simpa using this), Lib.hid hbn⟩
              case measure => simp [intOf]; omega
          | false =>
            clear HAL p0 p1 p2 q0 q1 q2
            go_wp2_with fail
            go_quiet (fail)
            go_wp2_with fail
            go_roundw
            case rel => exact ⟨m + 1, false, by omega, by omega, rfl, by go_num, Lib.hid (by have := HI.out; simpa using this), Lib.hid (bdrewN BI.out _)⟩
            case measure => simp [intOf]; omega
        · obtain rfl : m = n := by omega
          have hlb : lb = LA := by
            have := HI.out
            rw [List.drop_eq_nil_of_le (by rw [HN.out]; exact Nat.le_refl _)] at this
            simpa using this
          subst hlb
          have hdr : l.drop k = c :: l.drop (k + 1) := by rw [List.drop_eq_getElem_cons (List.getElem?_eq_some_iff.1 HC.out).1, (List.getElem?_eq_some_iff.1 HC.out).2]
          have hg := HG.out
          rw [hdr] at hg
          unfold netGo at hg
          have hwi := BW.out.size
          have hBN := BW.out.trans (BI.out.mono hwi)
          have hno := (show NetP w1.heap.size w1 wo _ _ _ from HO.out).low BI.out
          cases lb with
          | false =>
            have ha : (l.drop (k + 1)).any (alikeC c) = true := by simpa using HLA.out.symm
            rw [if_pos ha] at hg
            have HG2 := Lib.hid hg
            have HNO := Lib.hid hno
            have HBN := Lib.hid hBN
            clear hg ha hno hBN hdr
            go_wp2_with fail
            go_roundw
            case rel => exact ⟨k + 1, ys, oa, oc, by omega, by omega, rfl, by go_num, HG2, HNO, HBN⟩
            case measure => simp [intOf]; omega
          | true =>
            have ha : ¬ ((l.drop (k + 1)).any (alikeC c) = true) := by simpa using HLA.out.symm
            rw [if_neg ha] at hg
            have HG2 := Lib.hid hg
            have HBN := Lib.hid hBN
            have hbs := hBN.size
            obtain ⟨rows, hro, hra, _⟩ := hno
            obtain ⟨b1, o1, cc1, rv, hv1, _, _, hl1, q0, q1, q2, hr1, hrl1⟩ := HA.out.get HC.out
            rw [HN.out] at hv1
            simp only [Value.slice.injEq, true_and] at hv1
            obtain ⟨rfl, rfl⟩ := hv1
            obtain ⟨r1a, r1c, rfl, _, _⟩ := hr1.form
            have x0 := (hBN.cell (p := ⟨b1, o1 + k * 3, none⟩) hl1).trans q0
            have x1 := (hBN.cell (p := ⟨b1, o1 + k * 3 + 1, none⟩) hl1).trans q1
            have x2 := (hBN.cell (p := ⟨b1, o1 + k * 3 + 2, none⟩) hl1).trans q2
            have hli := Nat.lt_of_lt_of_le hl1 hBN.size
            have HRC := Lib.hid (show ChgC w1 [.bool c.add, .string ⟨c.rel.toArray⟩, .slice r1a (c.row.map Vl.cells).length r1c] c from ⟨_, rfl, hr1, hrl1⟩)
            have HRO := Lib.hid hro
            have HRA := Lib.hid hra
            clear hg ha hBN hdr hro hra q0 q1 q2 hr1 hl1
            generalize (c.row.map Vl.cells).length = rn at *
            go_wp2_with (at_builtin; refine wpList_append_lies _ rfl (.tmp 40) (.tmp 45) 22 rfl w1.heap.size 30 ic (.agg #[.bool false, .string ⟨#[]⟩, .slice none 0 0]) 3 48 Tryz.underlying22 hic hc0 hc1 hc2 rfl (by decide) (.slice oa ys.length oc) ys.length _ rfl (HRO.out.alloc _) ⟨_, 0, none⟩ 1 1 [.bool c.add, .string ⟨c.rel.toArray⟩, .slice r1a rn r1c] rfl rfl (World.news_of_block (Blk.new _ _ _)) (by simp [Value.oneCell']) (by decide) ?v3 ?v5 ?v4 _ rfl ?_)
            case v3 => unfold maxLen; omega
            case v5 => omega
            case v4 => first | omega | (simp; omega)
            intro g5 cap5 wj hown5 hgrow5 hat5 hlt5
            have hmd : mid ys ys.length c = ys ++ [c] := by unfold mid; rw [List.take_length, List.drop_length]
            have hnp : NetP w1.heap.size w1 wj (.slice (some ⟨g5, 0, none⟩) (ys.length + 1) cap5) (ys.length + 1) (mid ys ys.length c) := by
              rw [hmd]
              exact ⟨_ ++ [[.bool c.add, .string ⟨c.rel.toArray⟩, .slice r1a rn r1c]], by rw [List.flatten_append]; simpa using hown5, HRA.out.snoc HRC.out, by simp⟩
            have m5 : MT w1.heap.size [30] wi wj := ((MT.refl wi).alloc _).grown hgrow5 (HRO.out.alloc _) (by simp) (Nat.le_refl _)
            have HBJ := Lib.hid (HBN.out.trans (m5.below HBN.out.size))
            have HNP := Lib.hid hnp
            have HIA := Lib.hid (insAt_all ys c)
            clear hmd hnp m5 hown5 hgrow5 hat5 hlt5 HRO HRA HRC x0 x1 x2 HBN
            go_wp2_with fail
            go_loopw [8] (fun j wr => ∃ t : Nat, t ≤ ys.length ∧ j = .int .i64 t ∧ Hid (insAt ys t c = insC ys c) ∧ Hid (NetP w1.heap.size w1 wr (.slice (some ⟨g5, 0, none⟩) (ys.length + 1) cap5) (ys.length + 1) (mid ys t c)) ∧ Hid (Below w1.heap.size w1 wr)) (fun j _ => (intOf j).toNat)
            case atStart => exact ⟨ys.length, Nat.le_refl _, by go_num, HIA, HNP, HBJ⟩
            case round =>
              obtain ⟨t, hty, rfl, HI2, HN2, HB2⟩ := hrel
              obtain ⟨wr1, rfl⟩ : ∃ wr1 : World, wr1 = wr := ⟨_, rfl⟩
              clear HIA HNP HBJ
              cases t with
              | zero =>
                have hd0 : decide ((0 : Int) < ((0 : Nat) : Int)) = false := by simp
                have hfin := HI2.out
                rw [insAt_zero] at hfin
                have hn2 := HN2.out
                rw [hfin] at hn2
                have HN3 := Lib.hid hn2
                clear hfin hn2
                go_wp2_with fail
                go_quiet (fail)
                go_wp2_with fail
                go_roundw
                case rel => exact ⟨k + 1, insC ys c, some ⟨g5, 0, none⟩, cap5, by omega, by rw [insC_length]; omega, by rw [insC_length], by go_num, HG2, Lib.hid (show NetP _ _ _ _ _ _ by rw [insC_length]; exact HN3.out.low (bdrewN (Below.refl _ _) _)), Lib.hid (bdrewN HB2.out _)⟩
                case measure => simp [intOf]; omega
              | succ t =>
                obtain ⟨d, hd⟩ : ∃ d, ys[t]? = some d := ⟨ys[t]'(by omega), List.getElem?_eq_getElem (by omega)⟩
                have hst := insAt_step (x := c) hd
                obtain ⟨rows, n1, n2, n3⟩ := HN2.out
                have hll := n2.length
                have h33 : ∀ x ∈ rows, x.length = 3 := by
                  intro r hr
                  obtain ⟨x, _, rv, rfl, _⟩ := all2_mem n2 r hr
                  rfl
                have hra := RowAt.ofOwn n1 (by omega) h33 (by omega)
                obtain ⟨row1, hrw1, rv, rfl, hr1, hrl1⟩ := n2.get (mid_at hty)
                obtain ⟨row2, hrw2, ru, rfl, hr2, hrl2⟩ := n2.get (mid_below hd)
                obtain ⟨b1', o1', cap1, hv1, _, _, hl1, hc1'⟩ := hra.get hrw1
                obtain ⟨b2', o2', cap2, hv2, _, _, hl2, hc2'⟩ := hra.get hrw2
                rw [hll, n3] at hv1 hv2
                simp only [Value.slice.injEq, Option.some.injEq, Addr.mk.injEq, and_true, true_and] at hv1 hv2
                obtain ⟨⟨rfl, rfl⟩, rfl⟩ := hv1
                obtain ⟨⟨rfl, rfl⟩, rfl⟩ := hv2
                have q0 := hc1' 0 _ rfl
                have q1 := hc1' 1 _ rfl
                have q2 := hc1' 2 _ rfl
                have p0 := hc2' 0 _ rfl
                have p1 := hc2' 1 _ rfl
                have p2 := hc2' 2 _ rfl
                simp only [Nat.add_zero, Nat.zero_add] at q0 q1 q2 p0 p1 p2
                have hrk1 := hr1
                have hrk2 := hr2
                obtain ⟨r1a, r1c, rfl, _, _⟩ := hr1.form
                obtain ⟨r2a, r2c, rfl, _, _⟩ := hr2.form
                have htx := HT.out c (List.mem_of_getElem? HC.out)
                have HAL : Hid (∀ W, KD ⟨g5, (t + 1) * 3, none⟩ ⟨g5, t * 3, none⟩ c d (.slice r1a (c.row.map Vl.cells).length r1c) (.slice r2a (d.row.map Vl.cells).length r2c) wr1 W → Calls Tryz.prog 49 #[.agg #[.bool c.add, .string ⟨c.rel.toArray⟩, .slice r1a (c.row.map Vl.cells).length r1c], .agg #[.bool d.add, .string ⟨d.rel.toArray⟩, .slice r2a (d.row.map Vl.cells).length r2c]] W fun e w' => e = .returned (.bool (aheadC c d)) ∧ KD ⟨g5, (t + 1) * 3, none⟩ ⟨g5, t * 3, none⟩ c d (.slice r1a (c.row.map Vl.cells).length r1c) (.slice r2a (d.row.map Vl.cells).length r2c) wr1 w') :=
                  Lib.hid fun W h => (ahead_any W c d _ _ ((hr1.keep HB2.out).keep h.2.2.2.2.2.2) ((hr2.keep HB2.out).keep h.2.2.2.2.2.2) htx.1 htx.2).mono fun e w' hh => ⟨hh.1, h.step hl1 hl2 hh.2⟩
                unfold KD at HAL
                have HNN := Lib.hid (And.intro n1 (And.intro n2 n3))
                have HRS := Lib.hid (And.intro hll h33)
                have HR1 := Lib.hid (show ChgC w1 [.bool c.add, .string ⟨c.rel.toArray⟩, .slice r1a (c.row.map Vl.cells).length r1c] c from ⟨_, rfl, hr1, hrl1⟩)
                have HR2 := Lib.hid (show ChgC w1 [.bool d.add, .string ⟨d.rel.toArray⟩, .slice r2a (d.row.map Vl.cells).length r2c] d from ⟨_, rfl, hr2, hrl2⟩)
                have HD := Lib.hid hd
                have HST := Lib.hid hst
                have hbW := Below.refl wr1.heap.size wr1
                clear hr1 hr2 hrk1 hrk2 hrw1 hrw2 hc1' hc2' hra h33 n1 n2 n3 hll hd hst htx
                generalize (c.row.map Vl.cells).length = rn at *
                generalize (d.row.map Vl.cells).length = rm at *
                obtain ⟨ak, hak⟩ : ∃ ak, aheadC c d = ak := ⟨_, rfl⟩
                rw [hak] at HAL HST
                clear hak
                have hd0 : decide ((0 : Int) < ((t + 1 : Nat) : Int)) = true := decide_eq_true (by omega)
                have hd5 : (0 : Int) < ((t + 1 : Nat) : Int) := by omega
                have hd6 : 0 < t + 1 := by omega
                have hd7 : decide (0 < t + 1) = true := decide_eq_true hd6
                have hd1 : decide (((t + 1 : Nat) : Int) < 0) = false := decide_eq_false (by omega)
                have hd2 : decide (((ys.length + 1 : Nat) : Int) ≤ ((t + 1 : Nat) : Int)) = false := decide_eq_false (by omega)
                have hd3 : decide ((t : Int) < 0) = false := by simp
                have hd4 : decide (((ys.length + 1 : Nat) : Int) ≤ (t : Int)) = false := decide_eq_false (by omega)
                have he1 : (0 : Int) ≤ ((t + 1 : Nat) : Int) := by omega
                have he2 : ((t + 1 : Nat) : Int) < ((ys.length + 1 : Nat) : Int) := by omega
                have he3 : (0 : Int) ≤ (t : Int) := by omega
                have he4 : (t : Int) < ((ys.length + 1 : Nat) : Int) := by omega
                have he5 : t + 1 < ys.length + 1 := by omega
                have he6 : t < ys.length + 1 := by omega
                have he7 : ¬ (ys.length + 1 ≤ t + 1) := by omega
                have he8 : ¬ (ys.length + 1 ≤ t) := by omega
                have hf7 : decide (ys.length + 1 ≤ t + 1) = false := decide_eq_false he7
                have hf8 : decide (ys.length + 1 ≤ t) = false := decide_eq_false he8
                have hcs : ((t + 1 : Nat) : Int) - 1 = (t : Int) := by omega
                have hcw : IntKind.i64.wrap (((t + 1 : Nat) : Int) - 1) = (t : Int) := by rw [IntKind.wrap_i64]; omega
                have hcw2 : IntKind.i64.wrap (t : Int) = (t : Int) := by rw [IntKind.wrap_i64]; omega
                generalize hYL : ys.length + 1 = yl at *
                generalize hTT : t + 1 = tt at *
                go_wp2_with fail
                go_region_held3 (fun w' => w'.cell? ⟨g5, tt * 3, none⟩ = some (.bool c.add) ∧ w'.cell? ⟨g5, tt * 3 + 1, none⟩ = some (.string ⟨c.rel.toArray⟩) ∧ w'.cell? ⟨g5, tt * 3 + 2, none⟩ = some (.slice r1a rn r1c) ∧ w'.cell? ⟨g5, t * 3, none⟩ = some (.bool d.add) ∧ w'.cell? ⟨g5, t * 3 + 1, none⟩ = some (.string ⟨d.rel.toArray⟩) ∧ w'.cell? ⟨g5, t * 3 + 2, none⟩ = some (.slice r2a rm r2c) ∧ Below wr1.heap.size wr1 w')
                  (first | exact hK | (go_split_ands; refine ⟨?_, ?_, ?_, ?_, ?_, ?_, ?_⟩ <;> first | exact bdrew (by assumption) | assumption | go_keep))
                  (first | (go_at_call 49; go_split_ands; refine (HAL.out _ ⟨by assumption, by assumption, by assumption, by assumption, by assumption, by assumption, by assumption⟩).mono ?_; rintro e w' ⟨rfl, hK⟩))
                all_goals go_split_ands
                all_goals
                  rename_i hbx
                  cases ak with
                  | false =>
                    have hfin : mid ys tt c = insC ys c := by
                      have := HST.out
                      rw [if_neg (by decide)] at this
                      rw [← this]
                      exact HI2.out
                    have hn2 := HN2.out.low hbx
                    rw [hfin] at hn2
                    have HN3 := Lib.hid hn2
                    have HB3 := Lib.hid (HB2.out.trans (hbx.mono HB2.out.size))
                    clear hfin hn2
                    go_wp2_with fail
                    go_roundw
                    case rel => exact ⟨k + 1, insC ys c, some ⟨g5, 0, none⟩, _, by omega, by rw [insC_length]; omega, by rw [insC_length, hYL], by go_num, HG2, Lib.hid (show NetP _ _ _ _ _ _ by rw [insC_length, hYL]; exact HN3.out), HB3⟩
                    case measure => simp [intOf]; omega
                  | true =>
                    have ho := (MT.ofBelow (B := 0) (Ts := []) hbx).ownsRow HNN.out.1 (by simp)
                    obtain ⟨_, z0, hgl⟩ := own_cell ho (k := tt) (by omega) (j := 0) (by decide)
                    obtain ⟨_, z1, _⟩ := own_cell ho (k := tt) (by omega) (j := 1) (by decide)
                    obtain ⟨_, z2, _⟩ := own_cell ho (k := tt) (by omega) (j := 2) (by decide)
                    obtain ⟨_, y0, _⟩ := own_cell ho (k := t) (by omega) (j := 0) (by decide)
                    obtain ⟨_, y1, _⟩ := own_cell ho (k := t) (by omega) (j := 1) (by decide)
                    obtain ⟨_, y2, _⟩ := own_cell ho (k := t) (by omega) (j := 2) (by decide)
                    simp only [Nat.add_zero] at z0 y0
                    have hne : tt ≠ t := by omega
                    have HSW := Lib.hid (fun (W : World) => NetP.swap (W := W) hTT (HN2.out.low hbx) HD.out (by omega) HR1.out HR2.out (HB2.out.trans (hbx.mono HB2.out.size)))
                    have HI3 := Lib.hid (show insAt ys t c = insC ys c by have h1 := HST.out; rw [if_pos rfl] at h1; rw [← h1]; exact HI2.out)
                    clear ho hbx hbW HST HI2 HNN HRS HR1 HR2 HN2 HB2
                    go_wp2_with fail
                    go_region
                    all_goals
                      have HSS := Lib.hid (HSW.out _ rfl)
                      go_wp2_with fail
                      go_roundw
                      case rel => exact ⟨t, by omega, by go_num, HI3, Lib.hid (HSS.out.1.low (bdrew (Below.refl _ _))), Lib.hid (bdrew HSS.out.2)⟩
                      case measure => simp [intOf]; omega
    · obtain rfl : k = n := by omega
      have hg := HG.out
      rw [List.drop_eq_nil_of_le (by rw [HN.out]; exact Nat.le_refl _)] at hg
      have hg2 : ys = netC l := hg
      go_wp2_with fail
      go_ret
      exact ⟨_, rfl, hg2 ▸ (show NetP w1.heap.size w1 wo _ _ _ from HO.out).at BW.out (by omega), HB1.out.trans (BW.out.mono HB1.out.size)⟩
end Go.Proofs.YtgjknekoehfdfaaGreatDoor
namespace Go.Proofs.YtgjknekoehfdfaaGreatDoor
set_option linter.unusedVariables false

/-- What is kept of the name r behind one more change. -/
def nmStep (r : List UInt8) (M : List Chg) (c : Chg) : List Chg := if c.rel = r then (M.filter fun d => !decide (cmpRow c.row d.row = 0)) ++ [c] else M
def nmL (r : List UInt8) (l : List Chg) : List Chg := l.foldl (nmStep r) []
theorem nmL_snoc (r : List UInt8) (l : List Chg) (c : Chg) : nmL r (l ++ [c]) = nmStep r (nmL r l) c := by simp [nmL]
theorem nmL_same {r : List UInt8} {l : List Chg} {c : Chg} (h : c.rel = r) : nmL r (l ++ [c]) = ((nmL r l).filter fun d => !decide (cmpRow c.row d.row = 0)) ++ [c] := by
  rw [nmL_snoc, nmStep, if_pos h]
theorem nmL_other {r : List UInt8} {l : List Chg} {c : Chg} (h : c.rel ≠ r) : nmL r (l ++ [c]) = nmL r l := by
  rw [nmL_snoc, nmStep, if_neg h]
theorem lastIn_snoc (z c : Chg) : ∀ l : List Chg, lastIn z (l ++ [c]) ↔ z = c ∨ (lastIn z l ∧ alikeC z c = false)
  | [] => by simp [lastIn]
  | x :: r => by
    have ih := lastIn_snoc z c r
    show (z = x ∧ (r ++ [c]).any (alikeC x) = false) ∨ lastIn z (r ++ [c]) ↔ z = c ∨ (((z = x ∧ r.any (alikeC x) = false) ∨ lastIn z r) ∧ alikeC z c = false)
    rw [ih, List.any_append]
    simp only [List.any_cons, List.any_nil, Bool.or_false, Bool.or_eq_false_iff]
    constructor
    · rintro (⟨rfl, h1, h2⟩ | h | ⟨h1, h2⟩)
      · exact .inr ⟨.inl ⟨rfl, h1⟩, h2⟩
      · exact .inl h
      · exact .inr ⟨.inr h1, h2⟩
    · rintro (h | ⟨⟨rfl, h1⟩ | h1, h2⟩)
      · exact .inr (.inl h)
      · exact .inl ⟨rfl, h1, h2⟩
      · exact .inr (.inr ⟨h1, h2⟩)
theorem alikeC_false {z c : Chg} (h : z.rel = c.rel) : alikeC z c = false ↔ cmpRow c.row z.row ≠ 0 := by
  have h1 := alikeC_iff (a := z) (b := c)
  rw [cmpC_zero] at h1
  constructor
  · intro h2 h3
    have := h1.2 ⟨h, (cmpRow_eq _ _ h3).symm⟩
    rw [h2] at this
    cases this
  · intro h2
    cases h3 : alikeC z c with
    | false => rfl
    | true => exact absurd (by rw [(h1.1 h3).2]; exact cmpRow_self _) h2
theorem alikeC_apart {z c : Chg} (h : z.rel ≠ c.rel) : alikeC z c = false := by
  unfold alikeC
  simp [h]
/-- What the fold keeps. -/
structure NmOk (r : List UInt8) (M p : List Chg) : Prop where
  mem : ∀ z, z ∈ M ↔ z.rel = r ∧ lastIn z p
  apart : M.Pairwise fun x y => cmpRow x.row y.row ≠ 0
theorem NmOk.step {r : List UInt8} {M p : List Chg} (h : NmOk r M p) (c : Chg) : NmOk r (nmStep r M c) (p ++ [c]) := by
  by_cases hc : c.rel = r
  · unfold nmStep
    rw [if_pos hc]
    constructor
    · intro z
      rw [List.mem_append, List.mem_filter, h.mem z, lastIn_snoc, List.mem_singleton]
      constructor
      · rintro (⟨⟨h1, h2⟩, h3⟩ | rfl)
        · exact ⟨h1, .inr ⟨h2, (alikeC_false (by rw [h1, hc])).2 (by simpa using h3)⟩⟩
        · exact ⟨hc, .inl rfl⟩
      · rintro ⟨h1, rfl | ⟨h2, h3⟩⟩
        · exact .inr rfl
        · exact .inl ⟨⟨h1, h2⟩, by simpa using (alikeC_false (by rw [h1, hc])).1 h3⟩
    · rw [List.pairwise_append]
      refine ⟨h.apart.filter _, List.pairwise_singleton _ _, fun x hx y hy => ?_⟩
      rw [List.mem_singleton] at hy
      subst hy
      have h1 := (List.mem_filter.1 hx).2
      have h2 : cmpRow y.row x.row ≠ 0 := by simpa using h1
      have h3 := cmpRow_anti x.row y.row
      omega
  · unfold nmStep
    rw [if_neg hc]
    refine ⟨fun z => ?_, h.apart⟩
    rw [h.mem z, lastIn_snoc]
    constructor
    · rintro ⟨h1, h2⟩
      exact ⟨h1, .inr ⟨h2, alikeC_apart (by rw [h1]; exact Ne.symm hc)⟩⟩
    · rintro ⟨h1, rfl | ⟨h2, _⟩⟩
      · exact absurd h1 hc
      · exact ⟨h1, h2⟩
theorem NmOk.fold {r : List UInt8} : ∀ (l M p : List Chg), NmOk r M p → NmOk r (l.foldl (nmStep r) M) (p ++ l)
  | [], M, p, h => by simpa using h
  | c :: l, M, p, h => by
    have h1 := NmOk.fold l _ _ (h.step c)
    simpa using h1
theorem nmL_ok (r : List UInt8) (l : List Chg) : NmOk r (nmL r l) l := by
  have h := NmOk.fold (r := r) l [] [] ⟨fun z => by simp [lastIn], List.Pairwise.nil⟩
  show NmOk r (l.foldl (nmStep r) []) l
  simpa using h
theorem nmL_rel {r : List UInt8} {l : List Chg} {z : Chg} (h : z ∈ nmL r l) : z.rel = r := (((nmL_ok r l).mem z).1 h).1
theorem lastIn_mem {z : Chg} : ∀ {l : List Chg}, lastIn z l → z ∈ l
  | x :: r, h => by
    rcases h with ⟨rfl, _⟩ | h
    · exact List.mem_cons_self
    · exact List.mem_cons_of_mem _ (lastIn_mem h)
theorem nmL_mem {r : List UInt8} {l : List Chg} {z : Chg} (h : z ∈ nmL r l) : z ∈ l := lastIn_mem (((nmL_ok r l).mem z).1 h).2
theorem nmL_len (r : List UInt8) : ∀ (l : List Chg) (M : List Chg), (l.foldl (nmStep r) M).length ≤ M.length + l.length
  | [], M => by simp
  | c :: l, M => by
    have h1 := nmL_len r l (nmStep r M c)
    have h2 : (nmStep r M c).length ≤ M.length + 1 := by
      unfold nmStep
      by_cases hc : c.rel = r
      · rw [if_pos hc, List.length_append]
        have := List.length_filter_le (fun d : Chg => !decide (cmpRow c.row d.row = 0)) M
        simp only [List.length_singleton]
        omega
      · rw [if_neg hc]
        omega
    rw [List.foldl_cons, List.length_cons]
    omega
theorem nmL_le (r : List UInt8) (l : List Chg) : (nmL r l).length ≤ l.length := by
  have := nmL_len r l []
  simpa [nmL] using this
theorem nmL_none {r : List UInt8} {l : List Chg} (h : ∀ c ∈ l, c.rel ≠ r) : nmL r l = [] := by
  cases hm : nmL r l with
  | nil => rfl
  | cons z m =>
    have hz : z ∈ nmL r l := by rw [hm]; exact List.mem_cons_self
    exact absurd (nmL_rel hz) (h z (nmL_mem hz))

theorem lastIn_apart {z : Chg} : ∀ {l : List Chg}, l.Pairwise (fun x y => alikeC x y = false) → (lastIn z l ↔ z ∈ l)
  | [], _ => by simp [lastIn]
  | x :: r, h => by
    rw [List.pairwise_cons] at h
    have h1 : r.any (alikeC x) = false := by
      rw [List.any_eq_false]
      intro y hy
      simp [h.1 y hy]
    show (z = x ∧ r.any (alikeC x) = false) ∨ lastIn z r ↔ _
    rw [lastIn_apart h.2, List.mem_cons, h1]
    simp
/-- Sorted by the rows: what Net tells of these changes alone. -/
theorem sorted_net {r : List UInt8} {M s : List Chg} (hrel : ∀ c ∈ M, c.rel = r) (hd : M.Pairwise fun x y => cmpRow x.row y.row ≠ 0) (hp : s.Perm M) (hs : s.Pairwise fun x y => ¬ cmpRow y.row x.row < 0) : s = netC M := by
  have hal : M.Pairwise fun x y => alikeC x y = false := by
    refine hd.imp_of_mem fun {x y} hx hy h => ?_
    have h3 := cmpRow_anti x.row y.row
    exact (alikeC_false (by rw [hrel x hx, hrel y hy])).2 (by omega)
  have hds : s.Pairwise fun x y => cmpRow x.row y.row ≠ 0 := (hp.pairwise_iff (fun {x y} h => by have := cmpRow_anti x.row y.row; omega)).2 hd
  have hsr : SR s := by
    refine (hs.and hds).imp_of_mem fun {x y} hx hy h => ?_
    have h3 := cmpRow_anti x.row y.row
    unfold cmpC
    rw [hrel x (hp.mem_iff.1 hx), hrel y (hp.mem_iff.1 hy), if_pos (cb_refl r)]
    omega
  refine netC_eq hsr fun z => ?_
  rw [hp.mem_iff, lastIn_apart hal]
theorem mem_netnm {r : List UInt8} {l : List Chg} {z : Chg} : z ∈ netC (nmL r l) ↔ z ∈ nmL r l := by
  rw [mem_netC]
  refine lastIn_apart ?_
  refine (nmL_ok r l).apart.imp_of_mem fun {x y} hx hy h => ?_
  have h3 := cmpRow_anti x.row y.row
  exact (alikeC_false (by rw [nmL_rel hx, nmL_rel hy])).2 (by omega)
theorem cb_lt : ∀ a b : List UInt8, Lib.compareBytes a b < 0 ↔ a < b
  | [], [] => by simp [Lib.compareBytes]
  | [], _ :: _ => by simp [Lib.compareBytes]
  | _ :: _, [] => by simp [Lib.compareBytes]
  | a :: l, b :: m => by
    rw [Lib.compareBytes, List.cons_lt_cons_iff, ← cb_lt l m]
    by_cases h1 : a < b
    · simp [h1]
    · by_cases h2 : b < a
      · have h3 : a ≠ b := fun e => by subst e; exact h1 h2
        simp [h1, h2, h3]
      · have h3 : a = b := by
          rw [UInt8.lt_iff_toNat_lt] at h1 h2
          exact UInt8.toNat_inj.1 (by omega)
        subst h3
        simp
theorem flatMap_sorted {S : List UInt8 → List Chg} (hS : ∀ r, SR (S r)) (hr : ∀ r, ∀ z ∈ S r, z.rel = r) : ∀ ns : List (List UInt8), ns.Pairwise (fun x y => x < y) → SR (ns.flatMap S)
  | [], _ => List.Pairwise.nil
  | x :: ns, h => by
    rw [List.pairwise_cons] at h
    have ih := flatMap_sorted hS hr ns h.2
    unfold SR at *
    rw [List.flatMap_cons, List.pairwise_append]
    refine ⟨hS x, ih, fun a ha b hb => ?_⟩
    obtain ⟨y, hy, hb⟩ := List.mem_flatMap.1 hb
    have h1 := (cb_lt x y).2 (h.1 y hy)
    unfold cmpC
    rw [hr x a ha, hr y b hb, if_neg (by omega)]
    exact h1
/-- THE CODE's NET IS THE DOCUMENT's. -/
theorem code_net {l : List Chg} {ns : List (List UInt8)} (hn : ns.Nodup) (hs : ns.Pairwise fun x y => x ≤ y) (hm : ∀ r, r ∈ ns ↔ ∃ c ∈ l, c.rel = r) : ns.flatMap (fun r => netC (nmL r l)) = netC l := by
  have hlt : ns.Pairwise fun x y => x < y := (hs.and hn).imp fun {x y} h => by
    refine (cb_lt x y).1 ?_
    have h1 : ¬ Lib.compareBytes y x < 0 := fun e => absurd ((cb_lt y x).1 e) (List.not_lt.2 h.1)
    have h2 := cb_anti x y
    by_cases h3 : Lib.compareBytes x y = 0
    · exact absurd (cb_eq _ _ h3) h.2
    · omega
  refine netC_eq (flatMap_sorted (fun r => netC_sorted _) (fun r z hz => nmL_rel (mem_netnm.1 hz)) ns hlt) fun z => ?_
  rw [List.mem_flatMap]
  constructor
  · rintro ⟨r, _, hz⟩
    exact (((nmL_ok r l).mem z).1 (mem_netnm.1 hz)).2
  · intro hz
    exact ⟨z.rel, (hm _).2 ⟨z, lastIn_mem hz, rfl⟩, mem_netnm.2 (((nmL_ok z.rel l).mem z).2 ⟨rfl, hz⟩)⟩
end Go.Proofs.YtgjknekoehfdfaaGreatDoor
