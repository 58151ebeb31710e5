/- query.Parse's atoms, read: the closure, the list. -/
import Derived.Test.YtgjknekoehfdfaaGreatDoorGn
import Derived.Test.YtgjknekoehfdfaaGreatDoorSm
import Derived.Deep.RegionHeld3
namespace Go.Proofs.YtgjknekoehfdfaaGreatDoor
open Go.RowKit
set_option linter.unusedVariables false

def AtR (w : World) (cs : List Value) (x : (List UInt8 × Int) × List (Trm × Int)) : Prop :=
  ∃ tv, cs = [.string ⟨x.1.1.toArray⟩, .int .i64 x.1.2, tv] ∧ w.ownsRow 0 164 5 tv x.2.length (x.2.flatMap termV)
theorem atom_bad1 {c : List Tok} {a e : Int} (h : nameP c = .bad a e) : atomP c = .bad a e := by
  unfold atomP
  rw [h]
theorem atom_bad2 {c c1 : List Tok} {x : List UInt8 × Int} {a e : Int} (h : nameP c = .ok x c1) (h2 : listP termP c1 = .bad a e) : atomP c = .bad a e := by
  unfold atomP
  rw [h]
  simp only [h2]
theorem atom_ok {c c1 c2 : List Tok} {x : List UInt8 × Int} {l : List (Trm × Int)} (h : nameP c = .ok x c1) (h2 : listP termP c1 = .ok l c2) : atomP c = .ok (x, l) c2 := by
  unfold atomP
  rw [h]
  simp only [h2]
theorem own_one {w : World} {base : Nat} {e : TypeId} {size n : Nat} {v : Value} {xs : List Value} (h : w.ownsRow base e size v n xs) : v.oneCell' = true := by
  rcases h.2 with ⟨rfl, _⟩ | ⟨g, cap, cur, rfl, _⟩ <;> rfl

set_option maxHeartbeats 8000000 in
set_option maxRecDepth 100000 in
theorem atomClo_bad1 {w : World} {b r : Nat} {c : List Tok} {vt : Value} {B : Nat} (hi : InB w b r) (h : Rs w r c vt) (hB : B ≤ r) (hw : B ≤ w.heap.size) {a e : Int} (h0 : nameP c = .bad a e) :
    Calls Tryz.prog 98 #[.pointer (some ⟨b, 0, none⟩)] w (PPost (fun x c' v w' => ∃ cs, v = .agg cs.toArray ∧ AtR w' cs x ∧ InB w' b r ∧ Rs w' r c' vt) B [188] w (atomP c)) := by
  have hmf : ∀ (fn : Fn) (first cap : Array Value) (w : World), (Instr.makeFunc fn first cap).run Tryz.prog w = .ok (.func fn first cap) w := fun _ _ _ _ => rfl
  have hb0 : Below w.heap.size w (w.alloc (.cells #[.string ⟨#[]⟩, .int .i64 0, .slice none 0 0] 161)).drew := bdrew (balloc (Below.refl _ _) _)
  have zb : Blk (w.alloc (.cells #[.string ⟨#[]⟩, .int .i64 0, .slice none 0 0] 161)).drew w.heap.size 161 #[.string ⟨#[]⟩, .int .i64 0, .slice none 0 0] := Blk.drew (Blk.new w _ _)
  have hi1 : InB (w.alloc (.cells #[.string ⟨#[]⟩, .int .i64 0, .slice none 0 0] 161)).drew b r := Blk.drew (Blk.alloc hi _)
  have hnm := name_any (B := B) (h.keep hb0) hB
  have hbl := Blk.lt hi
  have HI1 := Lib.hid hi1
  have HB0 := Lib.hid hb0
  have ZB := Lib.hid zb
  clear h hb0 zb hi hi1
  rw [h0] at hnm
  rw [atom_bad1 h0]
  have HNM := Lib.hid hnm
  clear h0 hnm
  go_enter Tryz.func98, Tryz.ntmps98
  go_wp2_with fail
  refine wp_region_any (by kernel_rfl) ?_
  try (change wpAny _ _ _ _ _ _ _ (World.drew _))
  have x0 := Blk.cell HI1.out 0
  simp at x0
  refine wpAny_take (i := 3) (v := ?_) rfl (by kernel_rfl) (by kernel_rfl) (by kernel_rfl) (fun _ _ _ h => h) (Or.inl ⟨by rfl, ?_⟩) ?_
  rotate_left
  · intro w
    go_simp
    with_reducible rfl
  refine wpAny_ready (rs := [0, 2]) (by kernel_rfl) (by simp) ?_
  refine AllReady.cons rfl (fun K hK => ?_) (AllReady.cons rfl (fun K hK => ?_) AllReady.nil)
  · go_simp
    refine hK _ _ ?_
    clear hK K
    refine wpAny_ready (rs := [1, 2]) (by kernel_rfl) (by simp) ?_
    refine AllReady.cons rfl (fun K hK => ?_) (AllReady.cons rfl (fun K hK => ?_) AllReady.nil)
    · go_simp
      refine HNM.out.mono ?_
      rintro e' w1 ⟨rfl, hm⟩
      exact ⟨rfl, ppost_bad ((MT.ofBelow HB0.out).trans hm)⟩
    · go_simp
      refine hK _ _ ?_
      clear hK K
      refine wpAny_ready (rs := [1]) (by kernel_rfl) (by simp) ?_
      refine AllReady.cons rfl (fun K hK => ?_) AllReady.nil
      go_simp
      refine HNM.out.mono ?_
      rintro e' w1 ⟨rfl, hm⟩
      exact ⟨rfl, ppost_bad ((MT.ofBelow HB0.out).trans hm)⟩
  · go_simp
    refine hK _ _ ?_
    clear hK K
    refine wpAny_ready (rs := [0]) (by kernel_rfl) (by simp) ?_
    refine AllReady.cons rfl (fun K hK => ?_) AllReady.nil
    go_simp
    refine hK _ _ ?_
    clear hK K
    refine wpAny_ready (rs := [1]) (by kernel_rfl) (by simp) ?_
    refine AllReady.cons rfl (fun K hK => ?_) AllReady.nil
    go_simp
    refine HNM.out.mono ?_
    rintro e' w1 ⟨rfl, hm⟩
    exact ⟨rfl, ppost_bad ((MT.ofBelow HB0.out).trans hm)⟩

set_option maxHeartbeats 8000000 in
set_option maxRecDepth 100000 in
theorem atomClo_bad2 {w : World} {b r : Nat} {c : List Tok} {vt : Value} {B : Nat} (hi : InB w b r) (h : Rs w r c vt) (hB : B ≤ r) (hw : B ≤ w.heap.size) {x : List UInt8 × Int} {c1 : List Tok} {a e : Int} (h0 : nameP c = .ok x c1) (hlt : listP termP c1 = .bad a e) :
    Calls Tryz.prog 98 #[.pointer (some ⟨b, 0, none⟩)] w (PPost (fun x c' v w' => ∃ cs, v = .agg cs.toArray ∧ AtR w' cs x ∧ InB w' b r ∧ Rs w' r c' vt) B [188] w (atomP c)) := by
  have hmf : ∀ (fn : Fn) (first cap : Array Value) (w : World), (Instr.makeFunc fn first cap).run Tryz.prog w = .ok (.func fn first cap) w := fun _ _ _ _ => rfl
  have hb0 : Below w.heap.size w (w.alloc (.cells #[.string ⟨#[]⟩, .int .i64 0, .slice none 0 0] 161)).drew := bdrew (balloc (Below.refl _ _) _)
  have zb : Blk (w.alloc (.cells #[.string ⟨#[]⟩, .int .i64 0, .slice none 0 0] 161)).drew w.heap.size 161 #[.string ⟨#[]⟩, .int .i64 0, .slice none 0 0] := Blk.drew (Blk.new w _ _)
  have hi1 : InB (w.alloc (.cells #[.string ⟨#[]⟩, .int .i64 0, .slice none 0 0] 161)).drew b r := Blk.drew (Blk.alloc hi _)
  have hnm := name_any (B := B) (h.keep hb0) hB
  have hbl := Blk.lt hi
  have HI1 := Lib.hid hi1
  have HB0 := Lib.hid hb0
  have ZB := Lib.hid zb
  clear h hb0 zb hi hi1
  rw [h0] at hnm
  have HNM := Lib.hid hnm
  have H0 := Lib.hid h0
  clear h0 hnm
  rw [atom_bad2 H0.out hlt]
  have HLT := Lib.hid hlt
  clear hlt
  go_enter Tryz.func98, Tryz.ntmps98
  go_wp2_with fail
  refine wp_region_any (by kernel_rfl) ?_
  try (change wpAny _ _ _ _ _ _ _ (World.drew _))
  have x0 := Blk.cell HI1.out 0
  simp at x0
  refine wpAny_take (i := 3) (v := ?_) rfl (by kernel_rfl) (by kernel_rfl) (by kernel_rfl) (fun _ _ _ h => h) (Or.inl ⟨by rfl, ?_⟩) ?_
  rotate_left
  · intro w
    go_simp
    with_reducible rfl
  refine wpAny_ready (rs := [0, 2]) (by kernel_rfl) (by simp) ?_
  refine AllReady.cons rfl (fun K hK => ?_) (AllReady.cons rfl (fun K hK => ?_) AllReady.nil)
  · go_simp
    refine hK _ _ ?_
    clear hK K
    refine wpAny_ready (rs := [1, 2]) (by kernel_rfl) (by simp) ?_
    refine AllReady.cons rfl (fun K hK => ?_) (AllReady.cons rfl (fun K hK => ?_) AllReady.nil)
    · go_simp
      refine HNM.out.mono ?_
      rintro e' w1 ⟨v1, rfl, ⟨rfl, hr1⟩, hm⟩
      have hi2 := HI1.out.mt hm (by decide)
      have zb2 := ZB.out.mt hm (by decide)
      have hsz1 := hm.size
      have x1 := Blk.cell hi2 0
      simp at x1
      have hlt := terms_any (B := B) hi2 hr1 hB (by have := HB0.out.size; omega)
      rw [HLT.out] at hlt
      have HL := Lib.hid hlt
      have ZB2 := Lib.hid zb2
      have HM := Lib.hid ((MT.ofBelow HB0.out).trans hm)
      clear hlt zb2 hi2 hr1 hm
      unfold nameV
      go_simp
      refine hK _ _ ?_
      clear hK K
      refine wpAny_ready (rs := [2]) (by kernel_rfl) (by simp) ?_
      refine AllReady.cons rfl (fun K hK => ?_) AllReady.nil
      go_simp
      refine hK _ _ ?_
      clear hK K
      refine wpAny_ready (rs := [4]) (by kernel_rfl) (by simp) ?_
      refine AllReady.cons rfl (fun K hK => ?_) AllReady.nil
      go_simp
      refine HL.out.mono ?_
      rintro e' w2 ⟨rfl, hm2⟩
      exact ⟨rfl, ppost_bad (HM.out.trans hm2)⟩
    · go_simp
      refine hK _ _ ?_
      clear hK K
      refine wpAny_ready (rs := [1]) (by kernel_rfl) (by simp) ?_
      refine AllReady.cons rfl (fun K hK => ?_) AllReady.nil
      go_simp
      refine HNM.out.mono ?_
      rintro e' w1 ⟨v1, rfl, ⟨rfl, hr1⟩, hm⟩
      have hi2 := HI1.out.mt hm (by decide)
      have zb2 := ZB.out.mt hm (by decide)
      have hsz1 := hm.size
      have x1 := Blk.cell hi2 0
      simp at x1
      have hlt := terms_any (B := B) hi2 hr1 hB (by have := HB0.out.size; omega)
      rw [HLT.out] at hlt
      have HL := Lib.hid hlt
      have ZB2 := Lib.hid zb2
      have HM := Lib.hid ((MT.ofBelow HB0.out).trans hm)
      clear hlt zb2 hi2 hr1 hm
      unfold nameV
      go_simp
      refine hK _ _ ?_
      clear hK K
      refine wpAny_ready (rs := [4]) (by kernel_rfl) (by simp) ?_
      refine AllReady.cons rfl (fun K hK => ?_) AllReady.nil
      go_simp
      refine HL.out.mono ?_
      rintro e' w2 ⟨rfl, hm2⟩
      exact ⟨rfl, ppost_bad (HM.out.trans hm2)⟩
  · go_simp
    refine hK _ _ ?_
    clear hK K
    refine wpAny_ready (rs := [0]) (by kernel_rfl) (by simp) ?_
    refine AllReady.cons rfl (fun K hK => ?_) AllReady.nil
    go_simp
    refine hK _ _ ?_
    clear hK K
    refine wpAny_ready (rs := [1]) (by kernel_rfl) (by simp) ?_
    refine AllReady.cons rfl (fun K hK => ?_) AllReady.nil
    go_simp
    refine HNM.out.mono ?_
    rintro e' w1 ⟨v1, rfl, ⟨rfl, hr1⟩, hm⟩
    have hi2 := HI1.out.mt hm (by decide)
    have zb2 := ZB.out.mt hm (by decide)
    have hsz1 := hm.size
    have x1 := Blk.cell hi2 0
    simp at x1
    have hlt := terms_any (B := B) hi2 hr1 hB (by have := HB0.out.size; omega)
    rw [HLT.out] at hlt
    have HL := Lib.hid hlt
    have ZB2 := Lib.hid zb2
    have HM := Lib.hid ((MT.ofBelow HB0.out).trans hm)
    clear hlt zb2 hi2 hr1 hm
    unfold nameV
    go_simp
    refine hK _ _ ?_
    clear hK K
    refine wpAny_ready (rs := [4]) (by kernel_rfl) (by simp) ?_
    refine AllReady.cons rfl (fun K hK => ?_) AllReady.nil
    go_simp
    refine HL.out.mono ?_
    rintro e' w2 ⟨rfl, hm2⟩
    exact ⟨rfl, ppost_bad (HM.out.trans hm2)⟩

set_option maxHeartbeats 8000000 in
set_option maxRecDepth 100000 in
theorem atomClo_ok {w : World} {b r : Nat} {c : List Tok} {vt : Value} {B : Nat} (hi : InB w b r) (h : Rs w r c vt) (hB : B ≤ r) (hw : B ≤ w.heap.size) {x : List UInt8 × Int} {c1 c2 : List Tok} {l : List (Trm × Int)} (h0 : nameP c = .ok x c1) (hlt : listP termP c1 = .ok l c2) :
    Calls Tryz.prog 98 #[.pointer (some ⟨b, 0, none⟩)] w (PPost (fun x c' v w' => ∃ cs, v = .agg cs.toArray ∧ AtR w' cs x ∧ InB w' b r ∧ Rs w' r c' vt) B [188] w (atomP c)) := by
  have hmf : ∀ (fn : Fn) (first cap : Array Value) (w : World), (Instr.makeFunc fn first cap).run Tryz.prog w = .ok (.func fn first cap) w := fun _ _ _ _ => rfl
  have hb0 : Below w.heap.size w (w.alloc (.cells #[.string ⟨#[]⟩, .int .i64 0, .slice none 0 0] 161)).drew := bdrew (balloc (Below.refl _ _) _)
  have zb : Blk (w.alloc (.cells #[.string ⟨#[]⟩, .int .i64 0, .slice none 0 0] 161)).drew w.heap.size 161 #[.string ⟨#[]⟩, .int .i64 0, .slice none 0 0] := Blk.drew (Blk.new w _ _)
  have hi1 : InB (w.alloc (.cells #[.string ⟨#[]⟩, .int .i64 0, .slice none 0 0] 161)).drew b r := Blk.drew (Blk.alloc hi _)
  have hnm := name_any (B := B) (h.keep hb0) hB
  have hbl := Blk.lt hi
  have HI1 := Lib.hid hi1
  have HB0 := Lib.hid hb0
  have ZB := Lib.hid zb
  clear h hb0 zb hi hi1
  rw [h0] at hnm
  have HNM := Lib.hid hnm
  have H0 := Lib.hid h0
  clear h0 hnm
  rw [atom_ok H0.out hlt]
  have HLT := Lib.hid hlt
  clear hlt
  go_enter Tryz.func98, Tryz.ntmps98
  go_wp2_with fail
  refine wp_region_any (by kernel_rfl) ?_
  try (change wpAny _ _ _ _ _ _ _ (World.drew _))
  have x0 := Blk.cell HI1.out 0
  simp at x0
  refine wpAny_take (i := 3) (v := ?_) rfl (by kernel_rfl) (by kernel_rfl) (by kernel_rfl) (fun _ _ _ h => h) (Or.inl ⟨by rfl, ?_⟩) ?_
  rotate_left
  · intro w
    go_simp
    with_reducible rfl
  refine wpAny_ready (rs := [0, 2]) (by kernel_rfl) (by simp) ?_
  refine AllReady.cons rfl (fun K hK => ?_) (AllReady.cons rfl (fun K hK => ?_) AllReady.nil)
  · go_simp
    refine hK _ _ ?_
    clear hK K
    refine wpAny_ready (rs := [1, 2]) (by kernel_rfl) (by simp) ?_
    refine AllReady.cons rfl (fun K hK => ?_) (AllReady.cons rfl (fun K hK => ?_) AllReady.nil)
    · go_simp
      refine HNM.out.mono ?_
      rintro e' w1 ⟨v1, rfl, ⟨rfl, hr1⟩, hm⟩
      have hi2 := HI1.out.mt hm (by decide)
      have zb2 := ZB.out.mt hm (by decide)
      have hsz1 := hm.size
      have x1 := Blk.cell hi2 0
      simp at x1
      have hlt := terms_any (B := B) hi2 hr1 hB (by have := HB0.out.size; omega)
      rw [HLT.out] at hlt
      have HL := Lib.hid hlt
      have ZB2 := Lib.hid zb2
      have HM := Lib.hid ((MT.ofBelow HB0.out).trans hm)
      clear hlt zb2 hi2 hr1 hm
      unfold nameV
      go_simp
      refine hK _ _ ?_
      clear hK K
      refine wpAny_ready (rs := [2]) (by kernel_rfl) (by simp) ?_
      refine AllReady.cons rfl (fun K hK => ?_) AllReady.nil
      go_simp
      refine hK _ _ ?_
      clear hK K
      refine wpAny_ready (rs := [4]) (by kernel_rfl) (by simp) ?_
      refine AllReady.cons rfl (fun K hK => ?_) AllReady.nil
      go_simp
      refine HL.out.mono ?_
      rintro e' w2 ⟨tv, rfl, ⟨hown, hi3, hr3⟩, hm2⟩
      obtain ⟨ta, tc, rfl⟩ := own_sl hown
      have zb3 := ZB2.out.mt hm2 (by decide)
      have ZB3 := Lib.hid zb3
      have HOWN := Lib.hid (World.ownsRow.low hown (Nat.zero_le _))
      have HI3 := Lib.hid hi3
      have HR3 := Lib.hid hr3
      have HM2 := Lib.hid (HM.out.trans hm2)
      clear zb3 hown hi3 hr3 hm2
      go_simp
      refine hK _ _ ?_
      clear hK K
      refine wpAny_ready (rs := [5]) (by kernel_rfl) (by simp) ?_
      refine AllReady.cons rfl (fun K hK => ?_) AllReady.nil
      go_simp
      refine hK _ _ ?_
      clear hK K
      refine wpAny_ready (rs := [6]) (by kernel_rfl) (by simp) ?_
      refine AllReady.cons rfl (fun K hK => ?_) AllReady.nil
      refine step_store_blk rfl 161 _ _ rfl w.heap.size 161 _ _ rfl rfl ZB3.out (by kernel_rfl) rfl ?_ ?_
      · simp [Value.oneCell']
      intro w3 hb3 hm3 hz3
      have r0 := hb3.cell 0
      have r1 := hb3.cell 1
      have r2 := hb3.cell 2
      simp only [List.getElem?_toArray, List.getElem?_cons_zero, List.getElem?_cons_succ] at r0 r1 r2
      have mt3 : MT 0 [161] w2 w3 := MT.ofMod hm3 ZB3.out (by simp) (Nat.zero_le _)
      have HM3 := Lib.hid (HM2.out.own hm3 (Nat.le_refl _))
      have HR4 := Lib.hid (HR3.out.mt mt3 (by decide) (by decide))
      have HI4 := Lib.hid (HI3.out.mt mt3 (by decide))
      have HO4 := Lib.hid (mt3.ownsRow HOWN.out (by decide))
      clear hb3 hm3 hz3 mt3
      go_simp
      refine hK _ _ ?_
      clear hK K
      refine wpAny_done (by kernel_rfl) ?_ _
      go_wp2_with fail
      exact bodyPost_ret (v := .agg #[.string ⟨x.1.toArray⟩, .int .i64 x.2, .slice ta l.length tc]) (by simp [results, Tryz.results98, go_sem, *]) rfl ⟨_, rfl, ⟨_, rfl, ⟨_, rfl, HO4.out⟩, HI4.out, HR4.out⟩, HM3.out⟩
    · go_simp
      refine hK _ _ ?_
      clear hK K
      refine wpAny_ready (rs := [1]) (by kernel_rfl) (by simp) ?_
      refine AllReady.cons rfl (fun K hK => ?_) AllReady.nil
      go_simp
      refine HNM.out.mono ?_
      rintro e' w1 ⟨v1, rfl, ⟨rfl, hr1⟩, hm⟩
      have hi2 := HI1.out.mt hm (by decide)
      have zb2 := ZB.out.mt hm (by decide)
      have hsz1 := hm.size
      have x1 := Blk.cell hi2 0
      simp at x1
      have hlt := terms_any (B := B) hi2 hr1 hB (by have := HB0.out.size; omega)
      rw [HLT.out] at hlt
      have HL := Lib.hid hlt
      have ZB2 := Lib.hid zb2
      have HM := Lib.hid ((MT.ofBelow HB0.out).trans hm)
      clear hlt zb2 hi2 hr1 hm
      unfold nameV
      go_simp
      refine hK _ _ ?_
      clear hK K
      refine wpAny_ready (rs := [4]) (by kernel_rfl) (by simp) ?_
      refine AllReady.cons rfl (fun K hK => ?_) AllReady.nil
      go_simp
      refine HL.out.mono ?_
      rintro e' w2 ⟨tv, rfl, ⟨hown, hi3, hr3⟩, hm2⟩
      obtain ⟨ta, tc, rfl⟩ := own_sl hown
      have zb3 := ZB2.out.mt hm2 (by decide)
      have ZB3 := Lib.hid zb3
      have HOWN := Lib.hid (World.ownsRow.low hown (Nat.zero_le _))
      have HI3 := Lib.hid hi3
      have HR3 := Lib.hid hr3
      have HM2 := Lib.hid (HM.out.trans hm2)
      clear zb3 hown hi3 hr3 hm2
      go_simp
      refine hK _ _ ?_
      clear hK K
      refine wpAny_ready (rs := [5]) (by kernel_rfl) (by simp) ?_
      refine AllReady.cons rfl (fun K hK => ?_) AllReady.nil
      go_simp
      refine hK _ _ ?_
      clear hK K
      refine wpAny_ready (rs := [6]) (by kernel_rfl) (by simp) ?_
      refine AllReady.cons rfl (fun K hK => ?_) AllReady.nil
      refine step_store_blk rfl 161 _ _ rfl w.heap.size 161 _ _ rfl rfl ZB3.out (by kernel_rfl) rfl ?_ ?_
      · simp [Value.oneCell']
      intro w3 hb3 hm3 hz3
      have r0 := hb3.cell 0
      have r1 := hb3.cell 1
      have r2 := hb3.cell 2
      simp only [List.getElem?_toArray, List.getElem?_cons_zero, List.getElem?_cons_succ] at r0 r1 r2
      have mt3 : MT 0 [161] w2 w3 := MT.ofMod hm3 ZB3.out (by simp) (Nat.zero_le _)
      have HM3 := Lib.hid (HM2.out.own hm3 (Nat.le_refl _))
      have HR4 := Lib.hid (HR3.out.mt mt3 (by decide) (by decide))
      have HI4 := Lib.hid (HI3.out.mt mt3 (by decide))
      have HO4 := Lib.hid (mt3.ownsRow HOWN.out (by decide))
      clear hb3 hm3 hz3 mt3
      go_simp
      refine hK _ _ ?_
      clear hK K
      refine wpAny_done (by kernel_rfl) ?_ _
      go_wp2_with fail
      exact bodyPost_ret (v := .agg #[.string ⟨x.1.toArray⟩, .int .i64 x.2, .slice ta l.length tc]) (by simp [results, Tryz.results98, go_sem, *]) rfl ⟨_, rfl, ⟨_, rfl, ⟨_, rfl, HO4.out⟩, HI4.out, HR4.out⟩, HM3.out⟩
  · go_simp
    refine hK _ _ ?_
    clear hK K
    refine wpAny_ready (rs := [0]) (by kernel_rfl) (by simp) ?_
    refine AllReady.cons rfl (fun K hK => ?_) AllReady.nil
    go_simp
    refine hK _ _ ?_
    clear hK K
    refine wpAny_ready (rs := [1]) (by kernel_rfl) (by simp) ?_
    refine AllReady.cons rfl (fun K hK => ?_) AllReady.nil
    go_simp
    refine HNM.out.mono ?_
    rintro e' w1 ⟨v1, rfl, ⟨rfl, hr1⟩, hm⟩
    have hi2 := HI1.out.mt hm (by decide)
    have zb2 := ZB.out.mt hm (by decide)
    have hsz1 := hm.size
    have x1 := Blk.cell hi2 0
    simp at x1
    have hlt := terms_any (B := B) hi2 hr1 hB (by have := HB0.out.size; omega)
    rw [HLT.out] at hlt
    have HL := Lib.hid hlt
    have ZB2 := Lib.hid zb2
    have HM := Lib.hid ((MT.ofBelow HB0.out).trans hm)
    clear hlt zb2 hi2 hr1 hm
    unfold nameV
    go_simp
    refine hK _ _ ?_
    clear hK K
    refine wpAny_ready (rs := [4]) (by kernel_rfl) (by simp) ?_
    refine AllReady.cons rfl (fun K hK => ?_) AllReady.nil
    go_simp
    refine HL.out.mono ?_
    rintro e' w2 ⟨tv, rfl, ⟨hown, hi3, hr3⟩, hm2⟩
    obtain ⟨ta, tc, rfl⟩ := own_sl hown
    have zb3 := ZB2.out.mt hm2 (by decide)
    have ZB3 := Lib.hid zb3
    have HOWN := Lib.hid (World.ownsRow.low hown (Nat.zero_le _))
    have HI3 := Lib.hid hi3
    have HR3 := Lib.hid hr3
    have HM2 := Lib.hid (HM.out.trans hm2)
    clear zb3 hown hi3 hr3 hm2
    go_simp
    refine hK _ _ ?_
    clear hK K
    refine wpAny_ready (rs := [5]) (by kernel_rfl) (by simp) ?_
    refine AllReady.cons rfl (fun K hK => ?_) AllReady.nil
    go_simp
    refine hK _ _ ?_
    clear hK K
    refine wpAny_ready (rs := [6]) (by kernel_rfl) (by simp) ?_
    refine AllReady.cons rfl (fun K hK => ?_) AllReady.nil
    refine step_store_blk rfl 161 _ _ rfl w.heap.size 161 _ _ rfl rfl ZB3.out (by kernel_rfl) rfl ?_ ?_
    · simp [Value.oneCell']
    intro w3 hb3 hm3 hz3
    have r0 := hb3.cell 0
    have r1 := hb3.cell 1
    have r2 := hb3.cell 2
    simp only [List.getElem?_toArray, List.getElem?_cons_zero, List.getElem?_cons_succ] at r0 r1 r2
    have mt3 : MT 0 [161] w2 w3 := MT.ofMod hm3 ZB3.out (by simp) (Nat.zero_le _)
    have HM3 := Lib.hid (HM2.out.own hm3 (Nat.le_refl _))
    have HR4 := Lib.hid (HR3.out.mt mt3 (by decide) (by decide))
    have HI4 := Lib.hid (HI3.out.mt mt3 (by decide))
    have HO4 := Lib.hid (mt3.ownsRow HOWN.out (by decide))
    clear hb3 hm3 hz3 mt3
    go_simp
    refine hK _ _ ?_
    clear hK K
    refine wpAny_done (by kernel_rfl) ?_ _
    go_wp2_with fail
    exact bodyPost_ret (v := .agg #[.string ⟨x.1.toArray⟩, .int .i64 x.2, .slice ta l.length tc]) (by simp [results, Tryz.results98, go_sem, *]) rfl ⟨_, rfl, ⟨_, rfl, ⟨_, rfl, HO4.out⟩, HI4.out, HR4.out⟩, HM3.out⟩

theorem atomClo_any {w : World} {b r : Nat} {c : List Tok} {vt : Value} {B : Nat} (hi : InB w b r) (h : Rs w r c vt) (hB : B ≤ r) (hw : B ≤ w.heap.size) :
    Calls Tryz.prog 98 #[.pointer (some ⟨b, 0, none⟩)] w (PPost (fun x c' v w' => ∃ cs, v = .agg cs.toArray ∧ AtR w' cs x ∧ InB w' b r ∧ Rs w' r c' vt) B [188] w (atomP c)) := by
  cases h0 : nameP c with
  | bad a e =>
    have := atomClo_bad1 hi h hB hw h0
    exact this
  | ok x c1 =>
    cases hlt : listP termP c1 with
    | bad a e => exact atomClo_bad2 hi h hB hw h0 hlt
    | ok l c2 => exact atomClo_ok hi h hB hw h0 hlt
end Go.Proofs.YtgjknekoehfdfaaGreatDoor
