/- schema.Parse's columns, read: the closure, the list. -/
import Derived.Test.YtbehonaegfpmoaaDoorSc0Z
import Derived.Test.YtbehonaegfpmoaaDoorGn
import Derived.Test.YtbehonaegfpmoaaDoorSmColZ
import Derived.Test.YtbehonaegfpmoaaDoorGf
import Derived.Test.YtbehonaegfpmoaaDoorGg
namespace Go.Proofs.YtbehonaegfpmoaaDoor
open Go.RowKit
set_option linter.unusedVariables false

theorem blk_ne {w : World} {g h : Nat} {t u : TypeId} {cs ds : Array Value} (h1 : Blk w g t cs) (h2 : Blk w h u ds) (hne : t ≠ u) : g ≠ h := fun e => by
  subst e
  unfold Blk at h1 h2
  rw [h1] at h2
  injection h2 with h2
  injection h2 with _ e _
  exact hne e
/-- The places, in a variable of their own. -/
def PlB (B : Nat) (w : World) (bp : Nat) (ps : List Int) : Prop := ∃ pv, Blk w bp 130 #[pv] ∧ IntsO B w pv ps
theorem PlB.mt {B B' : Nat} {w w' : World} {bp : Nat} {ps : List Int} {Ts : List TypeId} (h : PlB B w bp ps) (hm : MT B' Ts w w') (h1 : 130 ∉ Ts) (h2 : 3 ∉ Ts) : PlB B w' bp ps := by
  obtain ⟨pv, h3, h4⟩ := h
  exact ⟨pv, h3.mt hm h1, hm.ownsRow h4 h2⟩
abbrev ClTs : List TypeId := [165, 130, 3]
def ElC (_ : World) (cs : List Value) (x : ClP) : Prop := cs = (clC x).cells
def JC (B b r bp : Nat) (w : World) (xs : List ClP) : Prop := InB w b r ∧ PlB B w bp (xs.map (·.2.2))

set_option maxHeartbeats 8000000 in
set_option maxRecDepth 100000 in
theorem colClo_any {w : World} {b r bp : Nat} {c : List Tok} {vt : Value} {B : Nat} {xs : List ClP} (hi : InB w b r) (hp : PlB B w bp (xs.map (·.2.2))) (h : Rs w r c vt) (hB : B ≤ r) (hw : B ≤ w.heap.size) (hbp : B ≤ bp) (hlen : xs.length + c.length ≤ 200000) :
    Calls Tryd.prog 81 #[.pointer (some ⟨b, 0, none⟩), .pointer (some ⟨bp, 0, none⟩)] w (PPost (fun x c' v w' => OneR 2 ElC (JC B b r bp) r vt xs x c' v w') B ClTs w (colP c)) := by
  obtain ⟨ii, hii, hn0, hn1, hn2⟩ := info_parts Tryd.infoInt
  have hf1 : ∀ (a b c d e f : Value) (w : World), (Instr.field 106 (.agg #[a, b, c, d, e, f]) 1).run Tryd.prog w = .ok b w := fun _ _ _ _ _ _ _ => by kernel_rfl
  have hb0 : Below w.heap.size w (w.alloc (.cells #[.string ⟨#[]⟩, .int .i64 0] 78)) := balloc (Below.refl _ _) _
  have htk := take_rs (B := B) (Ts := [165]) (h.keep hb0) 1 [] _ (tx_nil _) hB (by simp)
  have zb := Blk.new w 78 #[.string ⟨#[]⟩, .int .i64 0]
  have hi0 : InB (w.alloc (.cells #[.string ⟨#[]⟩, .int .i64 0] 78)) b r := Blk.alloc hi _
  have hp0 : PlB B (w.alloc (.cells #[.string ⟨#[]⟩, .int .i64 0] 78)) bp (xs.map (·.2.2)) := hp.mt (MT.ofBelow (B := 0) (Ts := []) hb0) (by simp) (by simp)
  have x0 := Blk.cell hi 0
  have hbl := Blk.lt hi
  simp at x0
  have hlx : (xs.map (·.2.2)).length ≤ 200000 := by simp; omega
  obtain ⟨ps, hps⟩ : ∃ ps, xs.map (·.2.2) = ps := ⟨_, rfl⟩
  rw [hps] at hp0 hlx
  have HPS := Lib.hid hps
  have HI0 := Lib.hid hi0
  have HP0 := Lib.hid hp0
  have HB0 := Lib.hid hb0
  have ZB := Lib.hid zb
  clear h hb0 zb hi hi0 hp hp0 hps
  cases h0 : tk 1 [] c with
  | bad a e =>
    rw [h0] at htk
    rw [col_bad1 h0]
    have HTK := Lib.hid htk
    clear h0 htk
    go_enter Tryd.func81, Tryd.ntmps81
    go_wp2_with fail
    refine HTK.out.mono ?_
    rintro e w1 ⟨rfl, hm⟩
    have HM := Lib.hid hm
    clear hm
    go_wp2_with fail
    exact ⟨rfl, ppost_bad ((MT.ofBelow HB0.out).trans (HM.out.wide (by simp)))⟩
  | ok t c1 =>
    rw [h0] at htk
    have HTK := Lib.hid htk
    have H0 := Lib.hid h0
    clear htk h0
    obtain ⟨Q, hQ⟩ : ∃ Q, Q = colP c := ⟨_, rfl⟩
    rw [← hQ]
    have HQ := Lib.hid hQ
    clear hQ
    go_enter Tryd.func81, Tryd.ntmps81
    go_wp2_with fail
    refine HTK.out.mono ?_
    rintro e w1 ⟨v, rfl, ⟨rfl, hr1⟩, hm1⟩
    have zb1 := ZB.out.mt hm1 (by decide)
    have hi1 : InB w1 b r := Blk.mt HI0.out hm1 (by decide)
    obtain ⟨pv, hpb1, hpo1⟩ := HP0.out.mt hm1 (by decide) (by decide)
    obtain ⟨pa, pc, rfl⟩ := own_sl hpo1
    have p0 := hpb1.cell 0
    have hpl := hpb1.lt
    have hw1 : w.heap.size < w1.heap.size := by have := zb1.lt; exact this
    simp only [List.getElem?_toArray, List.getElem?_cons_zero] at p0
    have HZ1 := Lib.hid zb1
    have HI1 := Lib.hid hi1
    have HPB1 := Lib.hid hpb1
    have HPO1 := Lib.hid (show w1.ownsRow B 3 1 (.slice pa ps.length pc) ps.length (ps.map fun p => .int .i64 p) from hpo1)
    have HR1 := Lib.hid hr1
    have HM1 := Lib.hid hm1
    clear zb1 hi1 hpb1 hpo1 hr1 hm1 HTK
    unfold Tok.v
    generalize hnn : ps.length = n at *
    go_wp2_with (at_builtin; refine wpList_append_lies _ rfl (.tmp 7) (.tmp 10) 130 rfl B 3 ii (.int .i64 0) 1 8 Tryd.underlying130 hii hn0 hn1 hn2 rfl (by decide) (.slice pa n pc) n _ rfl ((HPO1.out.alloc _).alloc _) ⟨_, 0, none⟩ 1 1 [.int .i64 t.p] rfl rfl (World.news_of_block (blkNew1 _ _ _ _)) (by simp [Value.oneCell']) (by decide) ?c3 ?c5 ?c4 _ rfl ?_)
    case c3 => unfold maxLen; omega
    case c5 => omega
    case c4 => simp; omega
    intro g cap1 w2 hown2 hgrow2 hat2 hlt2
    have bk : Below w1.heap.size w1 ((w1.alloc (.cells #[.int .i64 t.k, .string ⟨t.x.toArray⟩, .int .i64 t.vk, .int .i64 t.vn, .string ⟨t.vt.toArray⟩, .int .i64 t.p] 106)).alloc (.cells #[.int .i64 t.p] 3)) := balloc (balloc (Below.refl _ _) _) _
    have m2 : MT B [3] _ w2 := (MT.refl _).grown hgrow2 ((HPO1.out.alloc _).alloc _) (by simp) (Nat.le_refl _)
    have hpb2 := ((HPB1.out.alloc _).alloc _).mt m2 (by decide)
    have hi2 : InB w2 b r := Blk.mt (Blk.alloc (Blk.alloc HI1.out _) _) m2 (by decide)
    have tb2 := ((Blk.new w1 106 #[.int .i64 t.k, .string ⟨t.x.toArray⟩, .int .i64 t.vk, .int .i64 t.vn, .string ⟨t.vt.toArray⟩, .int .i64 t.p]).alloc (.cells #[.int .i64 t.p] 3)).mt m2 (by decide)
    have zb2 := ((HZ1.out.alloc _).alloc _).mt m2 (by decide)
    have hr2 := (HR1.out.keep bk).mt m2 (by decide) (by decide)
    have z0 := hpb2.cell 0
    have zy := hpb2.frozen 0
    have zl := hpb2.lt
    have k2 := Blk.cell hi2 0
    have k2l := Blk.lt hi2
    have hne : b ≠ bp := blk_ne hi2 hpb2 (by decide)
    have hne' : bp ≠ b := fun e => hne e.symm
    simp only [List.getElem?_toArray, List.getElem?_cons_zero] at z0 k2
    have ms : MT B [130] w2 (w2.setCell ⟨bp, 0, none⟩ (.slice (some ⟨g, 0, none⟩) (n + 1) cap1)) := MT.setCell (MT.refl w2) hpb2 (by simp) hbp _
    have hpb3 := hpb2.set_ 0 (.slice (some ⟨g, 0, none⟩) (n + 1) cap1)
    simp only [Array.setIfInBounds] at hpb3
    have HPL3 : Hid (PlB B (w2.setCell ⟨bp, 0, none⟩ (.slice (some ⟨g, 0, none⟩) (n + 1) cap1)) bp (ps ++ [t.p])) := Lib.hid ⟨_, by simpa using hpb3, by
      have := ms.ownsRow hown2 (by decide)
      unfold IntsO
      rw [List.length_append, hnn]
      simpa using this⟩
    have HI3 := Lib.hid (show InB _ b r from Blk.mt hi2 ms (by decide))
    have HTB3 := Lib.hid (tb2.mt ms (by decide))
    have HZ3 := Lib.hid (zb2.mt ms (by decide))
    have HMT3 : Hid (MT B ClTs w (w2.setCell ⟨bp, 0, none⟩ (.slice (some ⟨g, 0, none⟩) (n + 1) cap1))) := Lib.hid ((((MT.ofBelow HB0.out).trans (HM1.out.wide (by simp))).plusBelow bk).trans ((m2.wide (by simp)).trans (ms.wide (by simp))))
    have hr3 := hr2.mt ms (by decide) (by decide)
    have hx : TX ((w2.setCell ⟨bp, 0, none⟩ (.slice (some ⟨g, 0, none⟩) (n + 1) cap1)).alloc (.cells #[.string ⟨#[105, 110, 116]⟩, .string ⟨#[116, 101, 120, 116]⟩] 9)) (.slice (some ⟨w2.heap.size, 0, none⟩) 2 2) [[105, 110, 116], [116, 101, 120, 116]] := by
      have hbs := blkNewS w2 ⟨bp, 0, none⟩ (.slice (some ⟨g, 0, none⟩) (n + 1) cap1) 9 #[.string ⟨#[105, 110, 116]⟩, .string ⟨#[116, 101, 120, 116]⟩]
      refine ⟨by simp, some ⟨w2.heap.size, 0, none⟩, 2, rfl, .inr ⟨w2.heap.size, 0, rfl, hbs.lt, ?_⟩⟩
      intro j s hj
      match j with
      | 0 => simp at hj; subst hj; exact hbs.cell 0
      | 1 => simp at hj; subst hj; exact hbs.cell 1
      | j + 2 => simp at hj
    have htk2 := take_rs (B := B) (Ts := [165]) (hr3.keep (balloc (Below.refl _ _) (.cells #[.string ⟨#[105, 110, 116]⟩, .string ⟨#[116, 101, 120, 116]⟩] 9))) 1 [[105, 110, 116], [116, 101, 120, 116]] _ hx hB (by simp)
    have hw2 : w1.heap.size < w2.heap.size := by have := tb2.lt; exact this
    clear bk m2 hpb2 hi2 tb2 zb2 hr2 ms hpb3 hr3 hx hown2 hgrow2 hat2 hlt2 HPO1 HPB1 HI1 HZ1 HR1 HM1
    cases h1 : tk 1 [[105, 110, 116], [116, 101, 120, 116]] c1 with
    | bad a e =>
      rw [h1] at htk2
      have hq := HQ.out
      rw [col_bad2 H0.out h1] at hq
      subst hq
      have HTK := Lib.hid htk2
      clear htk2 h1
      go_wp2_with fail
      refine HTK.out.mono ?_
      rintro e w3 ⟨rfl, hm3⟩
      have HM3 := Lib.hid (((HMT3.out.alloc _).trans (hm3.wide (by simp))))
      clear hm3
      go_wp2_with fail
      exact ⟨rfl, ppost_bad HM3.out⟩
    | ok u c2 =>
      rw [h1] at htk2
      have hq := HQ.out
      rw [col_ok H0.out h1] at hq
      obtain ⟨KQ, hKQ⟩ : ∃ KQ : Int, KQ = (if u.x = [116, 101, 120, 116] then 2 else 1) := ⟨_, rfl⟩
      rw [← hKQ] at hq
      have HKQ := Lib.hid hKQ
      clear hKQ
      subst hq
      have HTK := Lib.hid htk2
      clear htk2 h1
      go_wp2_with fail
      refine HTK.out.mono ?_
      rintro e w3 ⟨v, rfl, ⟨rfl, hr3⟩, hm3⟩
      have tb4 := (HTB3.out.alloc (.cells #[.string ⟨#[105, 110, 116]⟩, .string ⟨#[116, 101, 120, 116]⟩] 9)).mt hm3 (by decide)
      have d1 := tb4.cell 1
      have d1l := tb4.lt
      simp only [List.getElem?_toArray, List.getElem?_cons_zero, List.getElem?_cons_succ] at d1
      have HZ4 := Lib.hid ((HZ3.out.alloc (.cells #[.string ⟨#[105, 110, 116]⟩, .string ⟨#[116, 101, 120, 116]⟩] 9)).mt hm3 (by decide))
      have HI4 := Lib.hid (show InB w3 b r from Blk.mt (Blk.alloc HI3.out _) hm3 (by decide))
      have HPL4 := Lib.hid ((HPL3.out.mt ((MT.refl (B := 0) (Ts := []) _).alloc _) (by simp) (by simp)).mt hm3 (by decide) (by decide))
      have HM4 := Lib.hid (((HMT3.out.alloc (.cells #[.string ⟨#[105, 110, 116]⟩, .string ⟨#[116, 101, 120, 116]⟩] 9)).trans (hm3.wide (by simp))))
      have HR4 := Lib.hid hr3
      clear tb4 hr3 hm3 HTK HTB3 HZ3 HI3 HPL3 HMT3
      unfold Tok.v
      have key : ∀ (kk : Int) (w4 : World), KQ = kk → Blk w4 w.heap.size 78 #[.string ⟨t.x.toArray⟩, .int .i64 kk] → Mod (fun k => k = w.heap.size) w3 w4 → PPost (fun x c' v w' => OneR 2 ElC (JC B b r bp) r vt xs x c' v w') B ClTs w (.ok (t.x, KQ, t.p) c2) (.returned (.agg #[.string ⟨t.x.toArray⟩, .int .i64 kk])) w4 := by
        intro kk w4 hkk hb4 hm4
        have m4 : MT 0 [78] w3 w4 := MT.ofMod hm4 HZ4.out (by simp) (Nat.zero_le _)
        subst hkk
        refine ⟨_, rfl, ⟨[.string ⟨t.x.toArray⟩, .int .i64 KQ], rfl, ⟨rfl, ?_, rfl⟩, ⟨Blk.mt HI4.out m4 (by decide), ?_⟩, HR4.out.mt m4 (by decide) (by decide)⟩, HM4.out.own hm4 (Nat.le_refl _)⟩
        · intro z hz
          simp only [List.mem_cons, List.not_mem_nil, or_false] at hz
          rcases hz with rfl | rfl <;> rfl
        · have := HPL4.out.mt m4 (by decide) (by decide)
          rw [List.map_append, HPS.out]
          exact this
      have KEY := Lib.hid key
      clear key
      by_cases hux : u.x = [116, 101, 120, 116]
      · have q1 : (u.x == [116, 101, 120, 116]) = true := by rw [hux]; rfl
        have hk := fun w4 => KEY.out 2 w4 (by rw [HKQ.out, if_pos hux])
        have HK := Lib.hid hk
        clear hk hux
        go_wp2_with (refine wpList_store_blk rfl 78 _ _ rfl w.heap.size 78 _ _ rfl rfl HZ4.out (by kernel_rfl) rfl (by simp [Value.oneCell']) ?_)
        intro w4 hb4 hm4 hz4
        have r0 := hb4.cell 0
        have r1 := hb4.cell 1
        simp only [List.getElem?_toArray, List.getElem?_cons_zero, List.getElem?_cons_succ] at r0 r1
        have HP := Lib.hid (HK.out w4 hb4 hm4)
        clear hb4 hm4 hz4
        go_wp2_with fail
        exact bodyPost_ret (v := .agg #[.string ⟨t.x.toArray⟩, .int .i64 2]) (by simp [results, Tryd.results81, go_sem, *]) rfl HP.out
      · have q1 : (u.x == [116, 101, 120, 116]) = false := by simpa using hux
        have hk := fun w4 => KEY.out 1 w4 (by rw [HKQ.out, if_neg hux])
        have HK := Lib.hid hk
        clear hk hux
        go_wp2_with (refine wpList_store_blk rfl 78 _ _ rfl w.heap.size 78 _ _ rfl rfl HZ4.out (by kernel_rfl) rfl (by simp [Value.oneCell']) ?_)
        intro w4 hb4 hm4 hz4
        have r0 := hb4.cell 0
        have r1 := hb4.cell 1
        simp only [List.getElem?_toArray, List.getElem?_cons_zero, List.getElem?_cons_succ] at r0 r1
        have HP := Lib.hid (HK.out w4 hb4 hm4)
        clear hb4 hm4 hz4
        go_wp2_with fail
        exact bodyPost_ret (v := .agg #[.string ⟨t.x.toArray⟩, .int .i64 1]) (by simp [results, Tryd.results81, go_sem, *]) rfl HP.out
end Go.Proofs.YtbehonaegfpmoaaDoor
