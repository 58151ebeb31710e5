/- The document's arena, walked: Take, Give. -/
import Derived.Test.YtppoakomeaamhaaRp2
namespace Go.Proofs.Ytppoakomeaamhaa
open Go.RowKit
set_option linter.unusedVariables false

/-- The generation that the next Take of a slot tells. -/
def genL (all : List One) (s : Int) : Int := if lastL all s < 0 then 1 else match all[(lastL all s).toNat]? with
  | some o => o.gen + 1
  | none => 1
def newOne (all : List One) (s v : Int) : One := ⟨s, genL all s, v, true, 0⟩

theorem Try.infoOne : (Try.prog.info? 72).map (fun i => (i.zero, i.size, i.bytes)) = some (some (.agg #[.int .i64 0, .int .i64 0, .int .i64 0, .bool false, .int .i64 0]), 5, 40) := by kernel_rfl

/-- The list has grown by one. -/
theorem DRep.grow {w w1 w' : World} {d : Nat} {slots gens clock : Int} {all : List One} {o : One} {a : Option Addr} {cap g1 cap1 H : Nat} {ob : Obj} (h : DRep w d slots gens all clock (.slice a all.length cap)) (hb : Below w.heap.size w w1) (hz : w1.heap.size + 1 = H)
    (hg : (w1.alloc ob).grownBy w' (Value.slice a all.length cap).ownBlock) (hown : w'.ownsRow 0 72 5 (.slice (some ⟨g1, 0, none⟩) (all.length + 1) cap1) (all.length + 1) (all.flatMap oc ++ [.int .i64 o.slot, .int .i64 o.gen, .int .i64 o.thing, .bool o.alive, .int .i64 o.back]))
    (hat : (Value.slice a all.length cap).ownBlock = some g1 ∨ g1 = H) :
    DNow w (w'.setCell ⟨d, 2, none⟩ (.slice (some ⟨g1, 0, none⟩) (all.length + 1) cap1)) d slots gens (all ++ [o]) clock (.slice a all.length cap) (.slice (some ⟨g1, 0, none⟩) (all.length + 1) cap1) := by
  have hg' : w1.grownBy w' (Value.slice a all.length cap).ownBlock := grown_of_alloc (k := 0) hg
  have h1 := h.keep hb
  have b1 : Blk w' d _ _ := h1.blk.grown hg' (fun e => h1.ne e.symm)
  have hm1 : Mod (dfoot d (.slice a all.length cap)) w w' := (Mod.ofBelow hb).grown hg' (fun k hk _ => .inr hk)
  have hg2 : w'.grownBy (w'.setCell ⟨d, 2, none⟩ (.slice (some ⟨g1, 0, none⟩) (all.length + 1) cap1)) (some d) := ⟨rfl, rfl, rfl, by simp, fun k _ hk => heap_setCell_other w' ⟨d, 2, none⟩ k _ (fun e => hk (by simp [e]))⟩
  refine ⟨⟨by simpa using b1.set_ 2 _, ?_⟩, hm1.setCell (p := ⟨d, 2, none⟩) (fun _ => .inl rfl) _, ?_⟩
  · have : w'.ownsRow 0 72 5 (.slice (some ⟨g1, 0, none⟩) (all.length + 1) cap1) (all ++ [o]).length ((all ++ [o]).flatMap oc) := by rw [oc_snoc]; simpa using hown
    exact this.kept hg2 (.inr (own_blk_ne this b1 (by decide)))
  · rintro k (hk | hk) hkl
    · exact .inl hk
    · simp [Value.ownBlock] at hk
      subst hk
      rcases hat with e | e
      · exact .inr e
      · have := hb.size
        omega

set_option maxHeartbeats 8000000 in
set_option maxRecDepth 100000 in
theorem take_ref (w : World) (d : Nat) (slots gens clock : Int) (all : List One) (va : Value) (h : DRep w d slots gens all clock va) (hl : all.length ≤ 1000000000000) (hs : Small all) (hs0 : 0 ≤ slots) (hs1 : slots ≤ 2000000) (v : Int) :
    Calls Try.prog 31 #[.pointer (some ⟨d, 0, none⟩), .int .i64 v] w fun e w' =>
      (pickL all slots gens < 0 ∧ e = .returned (.tuple #[.int .i64 0, .int .i64 0, .int .i64 31]) ∧ Below w.heap.size w w') ∨
      (0 ≤ pickL all slots gens ∧ e = .returned (.tuple #[.int .i64 (pickL all slots gens), .int .i64 (genL all (pickL all slots gens)), .int .i64 0]) ∧ ∃ va', DNow w w' d slots gens (all ++ [newOne all (pickL all slots gens) v]) clock va va') := by
  obtain ⟨a, cap, rfl, hm⟩ := own_len h.all
  have x2 := h.blk.cell 2
  simp at x2
  have hd := h.blk.lt
  obtain ⟨i0, hi0, hz0, hz1, hz2⟩ := info_parts Try.infoOne
  have hne := h.ne
  have H := Lib.hid h
  have HS := Lib.hid hs
  have hpr : Hid (pickL all slots gens ≤ 3000000) := Lib.hid (by
    have h1 := highN_range hs all.length
    have h2 := bestN_range (gens := gens) hs all.length
    unfold pickL
    split <;> omega)
  clear h hm hs
  go_enter Try.func31, Try.ntmps31
  go_wp2_with fail
  refine (pick_ref w d slots gens clock all _ H.out hl HS.out hs0 hs1).mono ?_
  rintro e w1 ⟨rfl, hb1⟩
  have HP : Hid (pickL all slots gens = pickL all slots gens) := rfl
  generalize hpk : pickL all slots gens = s at *
  have HPK := Lib.hid hpk
  clear hpk HP
  have HB1 := Lib.hid hb1
  have hsz := hb1.size
  clear hb1
  by_cases hs0' : s < 0
  · go_wp2_with fail
    exact bodyPost_ret (v := .tuple #[.int .i64 0, .int .i64 0, .int .i64 31]) (by simp [results, Try.results31, go_sem]) rfl (.inl ⟨by rw [HPK.out]; exact hs0', rfl, HB1.out⟩)
  · have k1 : decide (s < 0) = false := decide_eq_false hs0'
    have hsn : 0 ≤ s := by omega
    clear hs0'
    go_wp2_with fail
    refine (last_any _ d slots gens clock all _ (H.out.keep HB1.out) hl s).mono ?_
    rintro e w2 ⟨rfl, rfl⟩
    have hx2 := (HB1.out.cell (p := ⟨d, 2, none⟩) hd).trans x2
    have hlr := lastN_range all s all.length
    have hlr' : -1 ≤ lastL all s ∧ lastL all s < all.length := hlr
    clear hlr
    by_cases hln : lastL all s < 0
    · have hgl : genL all s = 1 := by unfold genL; rw [if_pos hln]
      have HGL := Lib.hid hgl
      generalize lastL all s = ll at *
      have k2 : decide (0 ≤ ll) = false := decide_eq_false (by omega)
      clear hgl
      have hra := H.out.keep HB1.out
      have HRA := Lib.hid hra
      have hdl := hra.blk.lt
      have y2 := hra.blk.frozen 2
      clear hra
      go_wp2_with (at_builtin; refine wpList_append_lies _ rfl (.tmp 32) (.tmp 37) 50 rfl 0 72 i0 (.agg #[.int .i64 0, .int .i64 0, .int .i64 0, .bool false, .int .i64 0]) 5 40 Try.underlying50 hi0 hz0 hz1 hz2 rfl (by decide) (.slice a all.length cap) all.length _ rfl (HRA.out.all.alloc _) ⟨w2.heap.size, 0, none⟩ 1 1 [.int .i64 s, .int .i64 1, .int .i64 v, .bool true, .int .i64 0] rfl rfl ?c1 ?c2 (by decide) ?c3 (by omega) (Nat.zero_le _) (w2.heap.size + 1) (by simp) ?_)
      case c1 => exact World.news_of_block (Blk.new w2 72 #[.int .i64 s, .int .i64 1, .int .i64 v, .bool true, .int .i64 0])
      case c2 => intro u hu; simp at hu; rcases hu with rfl | rfl | rfl | rfl | rfl <;> rfl
      case c3 => unfold maxLen; omega
      intro g1 cap1 w3 hown1 hgrow1 hat1 hlt1
      have hno : newOne all s v = ⟨s, 1, v, true, 0⟩ := by unfold newOne; rw [HGL.out]
      have hdn := H.out.grow (o := newOne all s v) HB1.out rfl hgrow1 (by rw [hno]; exact hown1) hat1
      have HDN := Lib.hid hdn
      have b3 := (HRA.out.blk.alloc _).grown hgrow1 (fun e => hne e.symm)
      have e2 := b3.cell 2
      have f2 := b3.frozen 2
      simp at e2
      clear hno hdn hown1 hgrow1 hat1 b3
      go_wp2_with fail
      refine bodyPost_ret (v := .tuple #[.int .i64 s, .int .i64 1, .int .i64 0]) (by simp [results, Try.results31, go_sem]) rfl (.inr ?_)
      rw [HPK.out, HGL.out]
      exact ⟨hsn, rfl, _, HDN.out⟩
    · obtain ⟨l, hll, hlt⟩ : ∃ l : Nat, lastL all s = (l : Int) ∧ l < all.length := ⟨(lastL all s).toNat, by omega, by omega⟩
      obtain ⟨g, o, rfl, hg, hcap, ho⟩ := (H.out.keep HB1.out).entry hlt
      obtain ⟨_, d1, _, _, _⟩ := (H.out.keep HB1.out).at ho
      have hog := HS.out l o ho
      have hgl : genL all s = o.gen + 1 := by
        unfold genL
        rw [if_neg hln, hll, Int.toNat_natCast, ho]
      have HGL := Lib.hid hgl
      rw [hll]
      have HLL := Lib.hid hll
      have k2 : decide (0 ≤ (l : Int)) = true := by simp
      clear hgl hll hln hlr' ho
      have hra := H.out.keep HB1.out
      have HRA := Lib.hid hra
      have hdl := hra.blk.lt
      have y2 := hra.blk.frozen 2
      clear hra
      generalize o.gen = og at *
      go_wp2_with (at_builtin; refine wpList_append_lies _ rfl (.tmp 32) (.tmp 37) 50 rfl 0 72 i0 (.agg #[.int .i64 0, .int .i64 0, .int .i64 0, .bool false, .int .i64 0]) 5 40 Try.underlying50 hi0 hz0 hz1 hz2 rfl (by decide) (.slice (some ⟨g, 0, none⟩) all.length cap) all.length _ rfl (HRA.out.all.alloc _) ⟨w2.heap.size, 0, none⟩ 1 1 [.int .i64 s, .int .i64 (og + 1), .int .i64 v, .bool true, .int .i64 0] rfl rfl ?c1 ?c2 (by decide) ?c3 (by omega) (Nat.zero_le _) (w2.heap.size + 1) (by simp) ?_)
      case c1 => exact World.news_of_block (Blk.new w2 72 #[.int .i64 s, .int .i64 (og + 1), .int .i64 v, .bool true, .int .i64 0])
      case c2 => intro u hu; simp at hu; rcases hu with rfl | rfl | rfl | rfl | rfl <;> rfl
      case c3 => unfold maxLen; omega
      intro g1 cap1 w3 hown1 hgrow1 hat1 hlt1
      have hno : newOne all s v = ⟨s, og + 1, v, true, 0⟩ := by unfold newOne; rw [HGL.out]
      have hdn := H.out.grow (o := newOne all s v) HB1.out rfl hgrow1 (by rw [hno]; exact hown1) hat1
      have HDN := Lib.hid hdn
      have b3 := (HRA.out.blk.alloc _).grown hgrow1 (fun e => hne e.symm)
      have e2 := b3.cell 2
      have f2 := b3.frozen 2
      simp at e2
      clear hno hdn hown1 hgrow1 hat1 b3
      go_wp2_with fail
      refine bodyPost_ret (v := .tuple #[.int .i64 s, .int .i64 (og + 1), .int .i64 0]) (by simp [results, Try.results31, go_sem]) rfl (.inr ?_)
      rw [HPK.out, HGL.out]
      exact ⟨hsn, rfl, _, HDN.out⟩
end Go.Proofs.Ytppoakomeaamhaa
