/- osierref09.Texts, Copy, walked. -/
import Derived.Test.YtgjknekoehfdfaaGreatDoorGr
import Derived.Deep.Cut
import Derived.Deep.CutRange
namespace Go.Proofs.YtgjknekoehfdfaaGreatDoor
open Go.RowKit
set_option linter.unusedVariables false

theorem strC_len (l : List (List UInt8)) : ∀ x ∈ l.map strC, x.length = 1 := by
  intro x hx
  simp at hx
  obtain ⟨t, _, rfl⟩ := hx
  rfl
theorem strC_one (l : List (List UInt8)) : ∀ x ∈ l.map strC, ∀ u ∈ x, u.oneCell' = true := by
  intro x hx u hu
  simp at hx
  obtain ⟨t, _, rfl⟩ := hx
  simp only [strC, List.mem_cons, List.not_mem_nil, or_false] at hu
  subst hu
  rfl

set_option maxHeartbeats 2000000 in
set_option maxRecDepth 100000 in
theorem textsC_any (w : World) (v : Value) (l : List (List UInt8)) (h : StrsAt w v l) :
    Calls Tryz.prog 184 #[v] w fun e w' => ∃ v', e = .returned v' ∧ OwnS w.heap.size w' v' l ∧ Below w.heap.size w w' := by
  obtain ⟨i0, hi0, hz0, hz1, hz2⟩ := info_parts Tryz.infoStr
  obtain ⟨ad, cap, rfl, hnc, hcm⟩ := h.form
  have hln := h.len
  unfold maxLen at hcm
  have HR : Hid (RowAt w (.slice ad l.length cap) 1 (l.map strC)) := Lib.hid h
  have HL := Lib.hid (strC_len l)
  have HO := Lib.hid (strC_one l)
  have hlen : (l.map strC).length = l.length := by simp
  have hfl := strC_flat l
  have hos : ∀ (w' : World) (v' : Value), w'.ownsRow w.heap.size 9 1 v' l.length (l.map strC).flatten → OwnS w.heap.size w' v' l := fun w' v' hh => by
    unfold OwnS
    rw [← strC_flat]
    exact hh
  generalize l.map strC = xs at *
  generalize hN : l.length = n at *
  have HX := Lib.hid hlen
  have HOS := Lib.hid hos
  clear h hN hlen hfl hos
  go_enter Tryz.func184, Tryz.ntmps184
  go_wp2_with (at_make; refine wpList_make_full _ rfl _ _ 38 rfl w.heap.size 9 i0 (.string ⟨#[]⟩) 1 Tryz.underlying38 hi0 hz0 hz1 _ _ _ _ n rfl rfl rfl rfl ?b2 ?b3 ?b4 ?_)
  case b2 => rw [hz2]; omega
  case b3 => unfold maxLen; omega
  case b4 => omega
  intro w2 hown2 hgrow2
  have hbw2 : Below w.heap.size w w2 := (Below.refl _ w).grown hgrow2 (Nat.le_refl _) (fun q hq => by cases hq)
  have HOW2 := Lib.hid hown2
  have HBW2 := Lib.hid hbw2
  have HR2 := Lib.hid (HR.out.keep hbw2)
  clear hbw2 hown2 hgrow2
  go_wp2_with (refine wpList_copy_full rfl _ _ _ _ rfl 9 1 Tryz.underlying38 (by kernel_rfl) w.heap.size n _ rfl rfl _ w.heap.size HOW2.out xs HR2.out HX.out HL.out HO.out (Nat.le_refl _) ?_)
  intro w3 hown3 hmod3 hsz3
  have HOW3 := Lib.hid (HOS.out _ _ hown3)
  have HBW3 := Lib.hid (Mod.own HBW2.out hmod3 (Nat.le_refl _))
  clear hown3 hmod3 hsz3
  go_wp2_with fail
  go_ret
  exact ⟨_, rfl, HOW3.out, HBW3.out⟩

theorem set3_facts {w1 : World} {y : Nat} {tq : TypeId} {a b c a' b' c' : Value} (hz : Blk w1 y tq #[a', b', c']) :
    Blk (((w1.setCell ⟨y, 0, none⟩ a).setCell ⟨y, 1, none⟩ b).setCell ⟨y, 2, none⟩ c) y tq #[a, b, c] ∧ MT 0 [tq] w1 (((w1.setCell ⟨y, 0, none⟩ a).setCell ⟨y, 1, none⟩ b).setCell ⟨y, 2, none⟩ c) ∧
    (∀ (g : Nat) (t : TypeId) (cs : Array Value), g ≠ y → Blk w1 g t cs → Blk (((w1.setCell ⟨y, 0, none⟩ a).setCell ⟨y, 1, none⟩ b).setCell ⟨y, 2, none⟩ c) g t cs) ∧
    ∀ (B : Nat) (w0 : World), B ≤ y → Below B w0 w1 → Below B w0 (((w1.setCell ⟨y, 0, none⟩ a).setCell ⟨y, 1, none⟩ b).setCell ⟨y, 2, none⟩ c) := by
  have z1 := hz.set_ 0 a
  have z2 := z1.set_ 1 b
  have z3 := z2.set_ 2 c
  refine ⟨by simpa using z3, ?_, fun g t cs hg hb => ((hb.far hg _).far hg _).far hg _, fun B w0 hB hb => ((hb.setCell (p := ⟨y, 0, none⟩) hB _).setCell (p := ⟨y, 1, none⟩) hB _).setCell (p := ⟨y, 2, none⟩) hB _⟩
  exact MT.setCell (MT.setCell (MT.setCell (MT.refl w1) hz (by simp) (Nat.zero_le _) a) z1 (by simp) (Nat.zero_le _) b) z2 (by simp) (Nat.zero_le _) c

theorem atomsRowG {B : Nat} {w : World} {v : Value} {n : Nat} {rows : List (List Value)} {al : List Atm} (h : w.ownsRow B 72 2 v n rows.flatten) (hn : n = al.length) (h2 : All2 (AtmO B w) rows al) (hl : al.length ≤ 8796093022208) (ht : ∀ a ∈ al, a.ts.length ≤ 2932031007317) : AtomsAt w v al := by
  have hll := h2.length
  refine ⟨rows, RowAt.ofOwn h (by omega) ?_ (by omega), all2_and h2 fun c x hx hr => ?_⟩
  · intro c hc
    obtain ⟨x, _, tv, rfl, _⟩ := all2_mem h2 c hc
    rfl
  · obtain ⟨tv, rfl, ho⟩ := hr
    rw [← map_flat] at ho
    refine ⟨tv, rfl, RowAt.ofOwn ho (by simp) (trm_len _) (by have := ht x hx; simp; omega), ht x hx⟩
theorem AtomsAt.small {w : World} {v : Value} {al : List Atm} (h : AtomsAt w v al) : ∀ a ∈ al, a.ts.length ≤ 2932031007317 := by
  intro a ha
  obtain ⟨i, hi⟩ := List.getElem?_of_mem ha
  obtain ⟨_, _, _, _, _, _, _, _, _, _, _, h9⟩ := h.get hi
  exact h9

/-- The query's copy: what it is. -/
def CopyQ (w : World) (name : ByteArray) (hd : List (List UInt8)) (al : List Atm) (e : Ending) (w' : World) : Prop :=
  ∃ hv av, e = .returned (.agg #[.string name, hv, av]) ∧ StrsAt w' hv hd ∧ AtomsAt w' av al ∧ Below w.heap.size w w'

set_option maxHeartbeats 8000000 in
set_option maxRecDepth 100000 in
theorem copyQ_any (w : World) (name : ByteArray) (hv av : Value) (hd : List (List UInt8)) (al : List Atm) (h1 : StrsAt w hv hd) (h2 : AtomsAt w av al) (hn : al.length ≤ 3518437208780) :
    Calls Tryz.prog 133 #[.agg #[.string name, hv, av]] w (CopyQ w name hd al) := by
  obtain ⟨ia, hia, ha0, ha1, ha2⟩ := info_parts Tryz.infoAtm
  obtain ⟨ad, cap, rfl, hnc, hcm⟩ := h2.form
  obtain ⟨hh, hc, rfl, hhc, hhm⟩ := h1.form
  unfold maxLen at hcm
  have HR := Lib.hid h2
  have HS := Lib.hid h1
  generalize hN : al.length = n at *
  have HN := Lib.hid hN
  have bx := (Blk.new w 41 #[.string name, .slice hh hd.length hc, .slice ad n cap]).alloc (.cells #[.string ⟨#[]⟩, .slice none 0 0, .slice none 0 0] 41)
  have br := blkNew1 w (.cells #[.string name, .slice hh hd.length hc, .slice ad n cap] 41) 41 #[.string ⟨#[]⟩, .slice none 0 0, .slice none 0 0]
  have b0 : Below w.heap.size w ((w.alloc (.cells #[.string name, .slice hh hd.length hc, .slice ad n cap] 41)).alloc (.cells #[.string ⟨#[]⟩, .slice none 0 0, .slice none 0 0] 41)) := balloc (balloc (Below.refl _ _) _) _
  have HTX := Lib.hid (fun W (hb : Below w.heap.size w W) => textsC_any W _ hd (h1.keep hb))
  have BX := Lib.hid bx
  have BR := Lib.hid br
  have B0 := Lib.hid b0
  clear h1 h2 hN bx br b0
  go_enter Tryz.func133, Tryz.ntmps133
  go_wp2_with fail
  have x0 := BX.out.cell 0
  have x1 := BX.out.cell 1
  have x2 := BX.out.cell 2
  simp only [List.getElem?_toArray, List.getElem?_cons_zero, List.getElem?_cons_succ] at x0 x1 x2
  have hxl := BX.out.lt
  have hzs : (((w.alloc (.cells #[.string name, .slice hh hd.length hc, .slice ad n cap] 41)).alloc (.cells #[.string ⟨#[]⟩, .slice none 0 0, .slice none 0 0] 41)).drew).heap.size = w.heap.size + 1 + 1 := by simp
  have zz := Blk.new (((w.alloc (.cells #[.string name, .slice hh hd.length hc, .slice ad n cap] 41)).alloc (.cells #[.string ⟨#[]⟩, .slice none 0 0, .slice none 0 0] 41)).drew) 41 #[.string ⟨#[]⟩, .slice none 0 0, .slice none 0 0]
  rw [hzs] at zz
  have Z := Lib.hid zz
  clear zz hzs
  have hz2 : ((w.alloc (.cells #[.string name, .slice hh hd.length hc, .slice ad n cap] 41)).alloc (.cells #[.string ⟨#[]⟩, .slice none 0 0, .slice none 0 0] 41)).heap.size = w.heap.size + 1 + 1 := by simp
  go_cut [3] from 5 to 10 (fun s3 wx => ∃ (y : Nat) (va : Option Addr) (vc : Nat), s3 = .pointer (some ⟨y, 0, none⟩) ∧ Hid (OwnS w.heap.size wx (.slice va hd.length vc) hd) ∧ Hid (Blk wx y 41 #[.string name, .slice va hd.length vc, .slice none 0 0]) ∧ Hid (Blk wx w.heap.size 41 #[.string name, .slice hh hd.length hc, .slice ad n cap]) ∧ Hid (Blk wx (w.heap.size + 1) 41 #[.string ⟨#[]⟩, .slice none 0 0, .slice none 0 0]) ∧ Hid (Below w.heap.size w wx) ∧ w.heap.size + 2 ≤ y)
  case first =>
    go_region_law (first
      | (go_simp; go_at_call 184; refine (HTX.out _ (balloc (bdrew B0.out) (.cells #[.string ⟨#[]⟩, .slice none 0 0, .slice none 0 0] 41))).mono ?_; rintro e w1 ⟨v1, rfl, hown1, hb1⟩; obtain ⟨va, vc, rfl⟩ := own_sl (show World.ownsRow _ _ _ _ _ _ _ from hown1); have zb := Z.out.below hb1 (by simp); have z0 := zb.cell 0; have z1 := zb.cell 1; have z2 := zb.cell 2; have f0 := zb.frozen 0; have f1 := zb.frozen 1; have f2 := zb.frozen 2; have zl := zb.lt; have xb := (BX.out.drew.alloc (.cells #[.string ⟨#[]⟩, .slice none 0 0, .slice none 0 0] 41)).below hb1 (by simp <;> omega); have rb := (BR.out.drew.alloc (.cells #[.string ⟨#[]⟩, .slice none 0 0, .slice none 0 0] 41)).below hb1 (by simp <;> omega); have y0 := xb.cell 0; have yl := xb.lt; have bw := (balloc (bdrew B0.out) (.cells #[.string ⟨#[]⟩, .slice none 0 0, .slice none 0 0] 41)).trans (hb1.mono (by simp <;> omega)); have hlow := World.ownsRow.low (show World.ownsRow _ _ _ _ _ _ _ from hown1) (show w.heap.size ≤ _ by simp <;> omega); simp only [List.getElem?_toArray, List.getElem?_cons_zero, List.getElem?_cons_succ] at z0 z1 z2 y0; have HZB := Lib.hid zb; have HXB := Lib.hid xb; have HRB := Lib.hid rb; have HBW := Lib.hid bw; have HLW := Lib.hid hlow; clear zb xb rb bw hlow hown1 hb1)
      | (go_simp; go_at_call 184; refine (HTX.out _ (bdrew B0.out)).mono ?_; rintro e w1 ⟨v1, rfl, hown1, hb1⟩; obtain ⟨va, vc, rfl⟩ := own_sl (show World.ownsRow _ _ _ _ _ _ _ from hown1); have xb := BX.out.drew.below hb1 (by simp <;> omega); have rb := BR.out.drew.below hb1 (by simp <;> omega); have y0 := xb.cell 0; have yl := xb.lt; simp only [List.getElem?_toArray, List.getElem?_cons_zero] at y0; have bw := (bdrew B0.out).trans (hb1.mono (by simp <;> omega)); have hlow := World.ownsRow.low (show World.ownsRow _ _ _ _ _ _ _ from hown1) (show w.heap.size ≤ _ by simp <;> omega); have hgz := hb1.size; simp at hgz; have HXB := Lib.hid xb; have HRB := Lib.hid rb; have HBW := Lib.hid bw; have HLW := Lib.hid hlow; clear xb rb bw hlow hown1 hb1))
    all_goals
      go_wp2_with fail
      go_meet
      first
        | (have hs3 := set3_facts (a := .string name) (b := .slice va hd.length vc) (c := .slice none 0 0) HZB.out
           exact ⟨_, _, _, rfl, Lib.hid (hs3.2.1.ownsRow HLW.out (by decide)), Lib.hid hs3.1, Lib.hid (hs3.2.2.1 _ _ _ (by omega) HXB.out), Lib.hid (hs3.2.2.1 _ _ _ (by omega) HRB.out), Lib.hid (hs3.2.2.2 _ _ (by omega) HBW.out), by omega⟩)
        | exact ⟨_, _, _, rfl, Lib.hid ((Mod.ofBelow (F := fun _ => False) (balloc (Below.refl _ _) _)).ownsRow HLW.out (fun _ _ f => f)), Lib.hid (Blk.new _ _ _), Lib.hid (HXB.out.alloc _), Lib.hid (HRB.out.alloc _), Lib.hid (balloc HBW.out _), by omega⟩
  case rest =>
    obtain ⟨y, va, vc, rfl, HOS, HY, HX, HRB, HB, hy⟩ := hcut
    go_wp2_with fail
    go_loopw [4] (fun i wr => ∃ (k : Nat) (jv : Value) (rows : List (List Value)), k ≤ n ∧ i = .int .i64 k ∧ Hid (wr.ownsRow w.heap.size 72 2 jv k rows.flatten) ∧ Hid (All2 (AtmO w.heap.size wr) rows (al.take k)) ∧ Hid (OwnS w.heap.size wr (.slice va hd.length vc) hd) ∧ Hid (Blk wr y 41 #[.string name, .slice va hd.length vc, jv]) ∧ Hid (Blk wr w.heap.size 41 #[.string name, .slice hh hd.length hc, .slice ad n cap]) ∧ Hid (Blk wr (w.heap.size + 1) 41 #[.string ⟨#[]⟩, .slice none 0 0, .slice none 0 0]) ∧ Hid (Below w.heap.size w wr)) (fun i _ => n - (intOf i).toNat)
    case atStart => exact ⟨0, .slice none 0 0, [], Nat.zero_le _, rfl, Lib.hid (World.ownsRow_nil _ _ _ _), Lib.hid trivial, HOS, HY, HX, HRB, HB⟩
    case round =>
      obtain ⟨k, jv, rows, hk, rfl, HJ, HA, HOS, HY, HX, HRB, HB⟩ := hrel
      obtain ⟨ja, jc, rfl⟩ := own_sl HJ.out
      have x2 := HX.out.cell 2
      have y2 := HY.out.cell 2
      simp only [List.getElem?_toArray, List.getElem?_cons_zero, List.getElem?_cons_succ] at x2 y2
      have hxl := HX.out.lt
      have hyl := HY.out.lt
      by_cases hlt : k < n
      · obtain ⟨a, ha⟩ : ∃ a, al[k]? = some a := ⟨al[k]'(by rw [HN.out]; exact hlt), List.getElem?_eq_getElem (by rw [HN.out]; exact hlt)⟩
        obtain ⟨b, off, cap', tv, hv', _, _, hbl, g0, g1, hrow, hal⟩ := (HR.out.keep HB.out).get ha
        rw [HN.out] at hv'
        simp only [Value.slice.injEq, true_and] at hv'
        obtain ⟨rfl, rfl⟩ := hv'
        obtain ⟨ta, tc, rfl, _, _⟩ := hrow.form
        have hd1 : decide ((k : Int) < 0) = false := by simp
        have hd2 : decide ((n : Int) ≤ (k : Int)) = false := by simp; omega
        simp only [List.length_map] at g1 hrow
        have hca := copyAtom_any wr.drew ⟨a.rel.toArray⟩ (.slice ta a.ts.length tc) a.ts (hrow.keep (bdrew (Below.refl _ _))) hal
        have HCA := Lib.hid hca
        have HAT := Lib.hid ha
        clear hca hrow ha
        go_wp2_with fail
        go_region_law (first
          | (go_simp; go_at_call 185; refine HCA.out.mono ?_; rintro e w6 ⟨tv6, rfl, hown6, hb6⟩; obtain ⟨va6, vc6, rfl⟩ := own_sl hown6; have m6 : MT 0 [] wr w6 := (MT.refl wr).drew.trans (MT.ofBelow hb6); have yb := HY.out.mt m6 (by simp); have y26 := yb.cell 2; have yl6 := yb.lt; have xb := HX.out.mt m6 (by simp); have x26 := xb.cell 2; have xl6 := xb.lt; simp only [List.getElem?_toArray, List.getElem?_cons_zero, List.getElem?_cons_succ] at y26 x26; have HJ6 := Lib.hid (m6.ownsRow HJ.out (by simp)); have HM6 := Lib.hid m6; have HY6 := Lib.hid yb; have HX6 := Lib.hid xb; have HO6 := Lib.hid hown6; have HB6 := Lib.hid ((bdrew HB.out).trans (hb6.mono (bdrew HB.out).size)); clear m6 yb xb hown6 hb6)
          | (refine step_append_lies _ rfl (.tmp 19) (.tmp 26) 39 rfl w.heap.size 72 ia (.agg #[.string ⟨#[]⟩, .slice none 0 0]) 2 40 Tryz.underlying39 hia ha0 ha1 ha2 rfl (by decide) (.slice ja k jc) k _ rfl (HJ6.out.alloc _) ⟨_, 0, none⟩ 1 1 [.string ⟨a.rel.toArray⟩, .slice va6 a.ts.length vc6] rfl rfl (World.news_of_block (Blk.new _ _ _)) (by simp [Value.oneCell']) (by decide) (by unfold maxLen; omega) (by omega) (by simp; have := HB6.out.size; omega) _ rfl ?_; intro g3 cap3 wi hown3 hgrow3 hat3 hlt3; have yi := (HY6.out.alloc (.cells #[.string ⟨a.rel.toArray⟩, .slice va6 a.ts.length vc6] 72)).grown hgrow3 (fun e => own_blk_ne HJ6.out HY6.out (by decide) (Eq.symm e)); have z2 := yi.cell 2; have zf := yi.frozen 2; have zl := yi.lt; simp only [List.getElem?_toArray, List.getElem?_cons_zero, List.getElem?_cons_succ] at z2; have HYI := Lib.hid yi; clear yi))
        all_goals
          have mi : MT 0 [72] w6 wi := ((MT.refl w6).alloc _).grown hgrow3 (HJ6.out.alloc _) (by simp) (Nat.zero_le _)
          have ms : MT 0 [41] wi (wi.setCell ⟨y, 2, none⟩ (.slice (some ⟨g3, 0, none⟩) (k + 1) cap3)) := MT.setCell (MT.refl wi) HYI.out (by simp) (Nat.zero_le _) _
          have hj2 := ms.ownsRow hown3 (by decide)
          have hno : (wi.setCell ⟨y, 2, none⟩ (.slice (some ⟨g3, 0, none⟩) (k + 1) cap3)).ownsRow w.heap.size 76 4 (.slice va6 a.ts.length vc6) a.ts.length (a.ts.flatMap Trm.cells) := by
            rw [← map_flat]
            exact ms.ownsRow (mi.ownsRow (World.ownsRow.low HO6.out HB.out.size) (by decide)) (by decide)
          have ha2 : All2 (AtmO w.heap.size (wi.setCell ⟨y, 2, none⟩ (.slice (some ⟨g3, 0, none⟩) (k + 1) cap3))) (rows ++ [[.string ⟨a.rel.toArray⟩, .slice va6 a.ts.length vc6]]) (al.take (k + 1)) := by
            rw [List.take_add_one, HAT.out]
            exact All2.snoc ⟨_, rfl, hno⟩ (HA.out.mono fun b x h => ((h.mt HM6.out (by simp)).mt mi (by decide)).mt ms (by decide))
          have hos := ms.ownsRow (mi.ownsRow (HM6.out.ownsRow HOS.out (by simp)) (by decide)) (by decide)
          have hy2 := HYI.out.set_ 2 (.slice (some ⟨g3, 0, none⟩) (k + 1) cap3)
          have hx2 := ((HX6.out.alloc (.cells #[.string ⟨a.rel.toArray⟩, .slice va6 a.ts.length vc6] 72)).grown hgrow3 (fun e => own_blk_ne HJ6.out HX6.out (by decide) (Eq.symm e))).far (p := ⟨y, 2, none⟩) (show w.heap.size ≠ y by omega) (.slice (some ⟨g3, 0, none⟩) (k + 1) cap3)
          have hrb := HRB.out.mt HM6.out (by simp)
          have hr2 := ((hrb.alloc (.cells #[.string ⟨a.rel.toArray⟩, .slice va6 a.ts.length vc6] 72)).grown hgrow3 (fun e => own_blk_ne HJ6.out hrb (by decide) (Eq.symm e))).far (p := ⟨y, 2, none⟩) (show w.heap.size + 1 ≠ y by omega) (.slice (some ⟨g3, 0, none⟩) (k + 1) cap3)
          have hb2 := ((balloc HB6.out (.cells #[.string ⟨a.rel.toArray⟩, .slice va6 a.ts.length vc6] 72)).grown hgrow3 (by simp; have := HB6.out.size; omega) (fun q hq => (HJ6.out.lt q hq).1)).setCell (p := ⟨y, 2, none⟩) (show w.heap.size ≤ y by omega) (.slice (some ⟨g3, 0, none⟩) (k + 1) cap3)
          have HJ2 := Lib.hid hj2
          have HA2 := Lib.hid ha2
          have HOS2 := Lib.hid hos
          have HY2 := Lib.hid hy2
          have HX2 := Lib.hid hx2
          have HR2 := Lib.hid hr2
          have HB2 := Lib.hid hb2
          clear mi ms hj2 hno ha2 hos hy2 hx2 hrb hr2 hb2 hown3 hgrow3 hat3 hlt3 z2 zf zl
          go_wp2_with fail
          go_roundw
          case rel => exact ⟨k + 1, _, _, by omega, by go_num, Lib.hid (by rw [List.flatten_append]; simpa using HJ2.out), HA2, HOS2, Lib.hid (by simpa using HY2.out), HX2, HR2, HB2⟩
          case measure => simp [intOf]; omega
      · obtain rfl : k = n := by omega
        have y0 := HY.out.cell 0
        have y1 := HY.out.cell 1
        simp only [List.getElem?_toArray, List.getElem?_cons_zero, List.getElem?_cons_succ] at y0 y1
        have ha := HA.out
        rw [List.take_of_length_le (by rw [HN.out]; exact Nat.le_refl _)] at ha
        have HAA := Lib.hid ha
        clear ha
        go_wp2_with (refine wpList_store_blk rfl 41 _ _ rfl (w.heap.size + 1) 41 _ _ rfl rfl HRB.out (by kernel_rfl) rfl (by simp [Value.oneCell']) ?_)
        intro w9 hb9 hm9 hz9
        have r0 := hb9.cell 0
        have r1 := hb9.cell 1
        have r2 := hb9.cell 2
        simp only [List.getElem?_toArray, List.getElem?_cons_zero, List.getElem?_cons_succ] at r0 r1 r2
        have m9 : MT 0 [41] wr w9 := MT.ofMod hm9 HRB.out (by simp) (Nat.zero_le _)
        have HB9 := Lib.hid (Mod.own HB.out hm9 (by omega))
        have HS9 : Hid (OwnS w.heap.size w9 (.slice va hd.length vc) hd) := Lib.hid (m9.ownsRow HOS.out (by decide))
        have HJ9 := Lib.hid (m9.ownsRow HJ.out (by decide))
        have HA9 := Lib.hid (HAA.out.mono fun b x h => h.mt m9 (by decide))
        have HLN := Lib.hid HS.out.len
        clear hb9 hm9 hz9 m9
        go_wp2_with fail
        refine bodyPost_ret (v := .agg #[.string name, .slice va hd.length vc, .slice ja k jc]) (by simp [results, Tryz.results133, go_sem, *]) rfl ⟨_, _, rfl, HS9.out.strs HLN.out, atomsRowG HJ9.out HN.out.symm HA9.out (by rw [HN.out]; omega) HR.out.small, HB9.out⟩
end Go.Proofs.YtgjknekoehfdfaaGreatDoor
