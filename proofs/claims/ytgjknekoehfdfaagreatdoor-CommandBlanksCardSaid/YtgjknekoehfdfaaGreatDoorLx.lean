/- lex.literal, walked. lex.one, walked. lex.one at ':' and '-', walked. -/
import Derived.Test.YtgjknekoehfdfaaGreatDoorLc
import Derived.Test.YtgjknekoehfdfaaGreatDoorLa
import Derived.Deep.RegionHeld3
namespace Go.Proofs.YtgjknekoehfdfaaGreatDoor
open Go.RowKit
set_option linter.unusedVariables false

theorem bstore1 {B : Nat} {w wr : World} (h : Below B w wr) {p : Addr} (hp : B ≤ p.block) (a : Value) : Below B w (wr.setCell p a) := h.setCell hp a
theorem bstore6 {w wr : World} (h : Below w.heap.size w wr) (a b c d e f : Value) : Below w.heap.size w ((((((wr.setCell ⟨w.heap.size, 0, none⟩ a).setCell ⟨w.heap.size, 1, none⟩ b).setCell ⟨w.heap.size, 2, none⟩ c).setCell ⟨w.heap.size, 3, none⟩ d).setCell ⟨w.heap.size, 4, none⟩ e).setCell ⟨w.heap.size, 5, none⟩ f) :=
  bstore1 (bstore1 (bstore1 (bstore1 (bstore1 (bstore1 h (Nat.le_refl _) _) (Nat.le_refl _) _) (Nat.le_refl _) _) (Nat.le_refl _) _) (Nat.le_refl _) _) (Nat.le_refl _) _

/-- What Scan tells at a place, by what stands there. -/
theorem scan_at (l : List UInt8) (i : Nat) (hi : i ≤ l.length) : scanR l i = ⟨(scanR (l.drop i) 0).k, (scanR (l.drop i) 0).n, (scanR (l.drop i) 0).t, if (scanR (l.drop i) 0).e = 0 then i + (scanR (l.drop i) 0).stop else 0, (scanR (l.drop i) 0).e⟩ := by
  have h := scan_shift (l.take i) (l.drop i)
  rw [List.take_append_drop, List.length_take, Nat.min_eq_left hi] at h
  exact h

set_option maxHeartbeats 8000000 in
set_option maxRecDepth 100000 in
theorem literal_bad (s : ByteArray) (i : Nat) (w : World) (hi : i < s.size) (hs : s.size ≤ 140737488355328) (hg : Glob w) (he : (scanR (s.data.toList.drop i) 0).e ≠ 0) :
    Calls Tryz.prog 204 #[.string s, .int .i64 i] w fun e w' => e = .returned (.tuple #[(litS (s.data.toList.drop i) i).1.v, .int .i64 (litS (s.data.toList.drop i) i).2]) ∧ Below w.heap.size w w' := by
  have hE : litS (s.data.toList.drop i) i = (tok0, (scanR (s.data.toList.drop i) 0).e) := by unfold litS; rw [if_neg he]
  have hsc := fun W (hG : Glob W) => scan_any s i W hs hG
  rw [scan_at _ i (by have : s.data.toList.length = s.size := rfl; omega)] at hsc
  have HB0 := Lib.hid (show Below w.heap.size w (w.alloc (.cells #[.int .i64 0, .string ⟨#[]⟩, .int .i64 0, .int .i64 0, .string ⟨#[]⟩, .int .i64 0] 101)) from balloc (Below.refl _ _) _)
  generalize scanR (s.data.toList.drop i) 0 = r at *
  obtain ⟨k, n, t, st, e0⟩ := r
  simp only at he hE
  simp only [Res.v, if_neg he] at hsc
  have HE := Lib.hid hE
  have HSC := Lib.hid hsc
  have HG := Lib.hid hg
  have q : (e0 != 0) = true := by simpa using he
  clear hE hsc hg he
  go_enter Tryz.func204, Tryz.ntmps204
  go_wp2_with fail
  refine (HSC.out _ (HG.out.below HB0.out)).mono ?_
  rintro e w1 ⟨rfl, hb1⟩
  have hblk1 := (Blk.new w 101 #[.int .i64 0, .string ⟨#[]⟩, .int .i64 0, .int .i64 0, .string ⟨#[]⟩, .int .i64 0]).below hb1 (by simp)
  have hlt1 := hblk1.lt
  have hb1' := HB0.out.trans (hb1.mono (by simp))
  have HBLK := Lib.hid hblk1
  clear hblk1 hb1
  go_wp2_with (refine wpList_store_blk rfl 101 _ _ rfl w.heap.size 101 _ _ rfl rfl (HBLK.out.alloc _) (by kernel_rfl) rfl (by simp [Value.oneCell']) ?_)
  intro w2 hb2 hm2 hz2
  have hB2 := Mod.own (balloc hb1' _) hm2 (Nat.le_refl _)
  have r0 := hb2.cell 0
  have r1 := hb2.cell 1
  have r2 := hb2.cell 2
  have r3 := hb2.cell 3
  have r4 := hb2.cell 4
  have r5 := hb2.cell 5
  have HB2 := Lib.hid hB2
  clear hb2 hm2 hz2 hB2 hb1' hlt1
  simp only [List.getElem?_toArray, List.getElem?_cons_zero, List.getElem?_cons_succ] at r0 r1 r2 r3 r4 r5
  go_wp2_with fail
  refine bodyPost_ret (v := .tuple #[tok0.v, .int .i64 e0]) (by simp [results, Tryz.results204, go_sem, *]; rfl) rfl ⟨by rw [HE.out], HB2.out⟩
set_option maxHeartbeats 8000000 in
set_option maxRecDepth 100000 in
theorem literal_good (s : ByteArray) (i : Nat) (w : World) (hi : i < s.size) (hs : s.size ≤ 140737488355328) (hg : Glob w) (he : (scanR (s.data.toList.drop i) 0).e = 0) :
    Calls Tryz.prog 204 #[.string s, .int .i64 i] w fun e w' => e = .returned (.tuple #[(litS (s.data.toList.drop i) i).1.v, .int .i64 (litS (s.data.toList.drop i) i).2]) ∧ Below w.heap.size w w' := by
  have hne : s.data.toList.drop i ≠ [] := drop_ne hi
  have hll := lit_len (r := s.data.toList.drop i) (p := i) (by unfold litS; rw [if_pos he]) hne
  have hE : litS (s.data.toList.drop i) i = (⟨2, (s.data.toList.drop i).take (scanR (s.data.toList.drop i) 0).stop.toNat, (scanR (s.data.toList.drop i) 0).k, (scanR (s.data.toList.drop i) 0).n, (scanR (s.data.toList.drop i) 0).t, i⟩, 0) := by unfold litS; rw [if_pos he]
  have hsc := fun W (hG : Glob W) => scan_any s i W hs hG
  rw [scan_at _ i (by have : s.data.toList.length = s.size := rfl; omega)] at hsc
  have HB0 := Lib.hid (show Below w.heap.size w (w.alloc (.cells #[.int .i64 0, .string ⟨#[]⟩, .int .i64 0, .int .i64 0, .string ⟨#[]⟩, .int .i64 0] 101)) from balloc (Below.refl _ _) _)
  obtain ⟨_, h1, h2⟩ := hll
  rw [List.length_drop] at h2
  have hsl : s.data.toList.length = s.size := rfl
  rw [hsl] at h2
  generalize scanR (s.data.toList.drop i) 0 = r at *
  obtain ⟨k, n, t, st, e0⟩ := r
  simp only at he h1 h2
  subst he
  obtain ⟨m, rfl⟩ := Int.eq_ofNat_of_zero_le (show 0 ≤ st by omega)
  simp only [Res.v, if_true, Int.toNat_natCast] at hsc hE h1 h2
  have hcast : (i : Int) + (m : Int) = ((i + m : Nat) : Int) := by omega
  rw [hcast] at hsc
  have hx : (s.extract i (i + m)).data.toList = (s.data.toList.drop i).take m := by simp
  rw [← hx] at hE
  have him : i + m ≤ s.size := by omega
  have HE := Lib.hid hE
  have HSC := Lib.hid hsc
  have HG := Lib.hid hg
  clear hE hsc hg h1 h2 hx hne hsl hcast
  go_enter Tryz.func204, Tryz.ntmps204
  go_wp2_with fail
  refine (HSC.out _ (HG.out.below HB0.out)).mono ?_
  rintro e w1 ⟨rfl, hb1⟩
  have hblk1 := (Blk.new w 101 #[.int .i64 0, .string ⟨#[]⟩, .int .i64 0, .int .i64 0, .string ⟨#[]⟩, .int .i64 0]).below hb1 (by simp)
  have hlt1 := hblk1.lt
  have hb1' := HB0.out.trans (hb1.mono (by simp))
  have HBLK := Lib.hid hblk1
  clear hblk1 hb1
  go_wp2_with fail
  refine wp_region_any (by kernel_rfl) ?_
  try (change wpAny _ _ _ _ _ _ _ (World.drew _))
  have hle : (i : Int) + (m : Int) ≤ s.size := by omega
  have hle2 : (i : Int) ≤ (i : Int) + (m : Int) := by omega
  refine wpAny_take (i := 0) (v := ?_) rfl (by kernel_rfl) (by kernel_rfl) (by kernel_rfl) (fun _ _ _ h => h) (Or.inl ⟨by rfl, ?_⟩) ?_
  rotate_left
  · intro w
    go_simp
    with_reducible rfl
  refine wpAny_take (i := 1) (v := ?_) rfl (by kernel_rfl) (by kernel_rfl) (by kernel_rfl) (fun _ _ _ h => h) (Or.inl ⟨by rfl, ?_⟩) ?_
  rotate_left
  · intro w
    go_simp
    with_reducible rfl
  refine wpAny_take (i := 2) (v := ?_) rfl (by kernel_rfl) (by kernel_rfl) (by kernel_rfl) (fun _ _ _ h => h) (Or.inl ⟨by rfl, ?_⟩) ?_
  rotate_left
  · intro w
    go_simp
    with_reducible rfl
  refine wpAny_take (i := 5) (v := ?_) rfl (by kernel_rfl) (by kernel_rfl) (by kernel_rfl) (fun _ _ _ h => h) (Or.inl ⟨by rfl, ?_⟩) ?_
  rotate_left
  · intro w
    go_simp
    with_reducible rfl
  refine wpAny_take (i := 3) (v := ?_) rfl (by kernel_rfl) (by kernel_rfl) (by kernel_rfl) (fun _ _ _ h => h) (Or.inl ⟨by rfl, ?_⟩) ?_
  rotate_left
  · intro w
    go_simp
    with_reducible rfl
  refine wpAny_ready (rs := [4]) (by kernel_rfl) (by simp) ?_
  refine AllReady.cons rfl (fun K hK => ?_) AllReady.nil
  go_simp
  refine hK _ _ ?_
  clear hK K
  refine wpAny_take (i := 6) (v := ?_) rfl (by kernel_rfl) (by kernel_rfl) (by kernel_rfl) (fun _ _ _ h => h) (Or.inl ⟨by rfl, ?_⟩) ?_
  rotate_left
  · intro w
    go_simp
    with_reducible rfl
  refine wpAny_ready (rs := [7]) (by kernel_rfl) (by simp) ?_
  refine AllReady.cons rfl (fun K hK => ?_) AllReady.nil
  refine step_store_blk rfl 101 _ _ rfl w.heap.size 101 _ _ rfl rfl ((HBLK.out.alloc _).drew) (by kernel_rfl) rfl (by simp [Value.oneCell']) ?_
  intro w2 hb2 hm2 hz2
  have hB2 := Mod.own (bdrew (balloc hb1' _)) hm2 (Nat.le_refl _)
  have htn : ((i : Int) + (m : Int)).toNat = i + m := by omega
  rw [htn] at hb2
  have r0 := hb2.cell 0
  have r1 := hb2.cell 1
  have r2 := hb2.cell 2
  have r3 := hb2.cell 3
  have r4 := hb2.cell 4
  have r5 := hb2.cell 5
  have HB2 := Lib.hid hB2
  clear hb2 hm2 hz2 hB2 hb1' hlt1
  simp only [List.getElem?_toArray, List.getElem?_cons_zero, List.getElem?_cons_succ] at r0 r1 r2 r3 r4 r5
  go_simp
  refine hK _ _ ?_
  clear hK K
  refine wpAny_take (i := 8) (v := ?_) rfl (by kernel_rfl) (by kernel_rfl) (by kernel_rfl) (fun _ _ _ h => h) (Or.inl ⟨by rfl, ?_⟩) ?_
  rotate_left
  · intro w
    go_simp
    with_reducible rfl
  refine wpAny_done (by kernel_rfl) ?_ _
  go_wp2_with fail
  refine bodyPost_ret (v := .tuple #[.agg #[.int .i64 2, .string (s.extract i (i + m)), .int .i64 k, .int .i64 n, .string ⟨t.toArray⟩, .int .i64 i], .int .i64 0]) (by simp [results, Tryz.results204, go_sem, *]) rfl ⟨by rw [HE.out]; rfl, HB2.out⟩

theorem literal_any (s : ByteArray) (i : Nat) (w : World) (hi : i < s.size) (hs : s.size ≤ 140737488355328) (hg : Glob w) :
    Calls Tryz.prog 204 #[.string s, .int .i64 i] w fun e w' => e = .returned (.tuple #[(litS (s.data.toList.drop i) i).1.v, .int .i64 (litS (s.data.toList.drop i) i).2]) ∧ Below w.heap.size w w' := by
  by_cases he : (scanR (s.data.toList.drop i) 0).e = 0
  · exact literal_good s i w hi hs hg he
  · exact literal_bad s i w hi hs hg he
end Go.Proofs.YtgjknekoehfdfaaGreatDoor
namespace Go.Proofs.YtgjknekoehfdfaaGreatDoor
open Go.RowKit
set_option linter.unusedVariables false

theorem drop0 (l : List UInt8) (i : Nat) : bt (l.drop i) 0 = bt l i := by rw [bt_drop]; rfl
theorem drop1 (l : List UInt8) (i : Nat) : bt (l.drop i) 1 = bt l (i + 1) := by rw [bt_drop]
theorem bt_past {l : List UInt8} {k : Nat} (h : l.length ≤ k) : bt l k = 0 := by
  unfold bt
  rw [List.getD_eq_getElem?_getD, List.getElem?_eq_none h]
  rfl
theorem take_extract (s : ByteArray) (i m : Nat) : (s.data.toList.drop i).take m = (s.extract i (i + m)).data.toList := by simp

/-- What one tells of the token at i. -/
def OneOk (s : ByteArray) (i : Nat) (w : World) : Prop :=
  Calls Tryz.prog 152 #[.string s, .int .i64 i] w fun e w' => e = .returned (.tuple #[(oneS (s.data.toList.drop i) i).1.v, .int .i64 (oneS (s.data.toList.drop i) i).2]) ∧ Below w.heap.size w w'

set_option maxHeartbeats 8000000 in
set_option maxRecDepth 100000 in
/-- A mark of one byte. -/
theorem one_mark (s : ByteArray) (i : Nat) (w : World) (hi : i < s.size) (hs : s.size ≤ 140737488355328) (hg : Glob w)
    (hc : bt s.data.toList i = 40 ∨ bt s.data.toList i = 41 ∨ bt s.data.toList i = 44 ∨ bt s.data.toList i = 43) : OneOk s i w := by
  unfold OneOk
  have hE : oneS (s.data.toList.drop i) i = (⟨3, (s.extract i (i + 1)).data.toList, 0, 0, [], i⟩, 0) := by
    unfold oneS
    rw [drop0, drop1, if_neg (by omega), if_neg (by
      have : digB (bt s.data.toList i) = false := by rcases hc with h | h | h | h <;> rw [h] <;> rfl
      rw [this]; simp; omega), if_pos (.inr hc), take_extract]
  have hbt := bt_of s i hi
  have hbt1 : ∀ h : i + 1 < s.size, ((s[i + 1]'h).toNat : Int) = bt s.data.toList (i + 1) := bt_of s (i + 1)
  have HB0 := Lib.hid (show Below w.heap.size w (w.alloc (.cells #[.int .i64 3, .string (s.extract i (i + 1)), .int .i64 0, .int .i64 0, .string ⟨#[]⟩, .int .i64 i] 101)) from balloc (Below.refl _ _) _)
  have hsl : s.data.toList.length = s.size := rfl
  have hle : (i : Int) + 1 ≤ s.size := by omega
  have HE := Lib.hid hE
  clear hE hg
  generalize hL : s.data.toList = l at *
  have HL := Lib.hid hL
  have HSL := Lib.hid hsl
  clear hL hsl
  by_cases h1 : i + 1 < s.size
  all_goals
    have h1' := h1
    rcases hc with h | h | h | h
  all_goals
    rw [h] at hbt
    clear h
    go_enter Tryz.func152, Tryz.ntmps152
    go_wp2_with fail
    refine bodyPost_ret (v := .tuple #[.agg #[.int .i64 3, .string (s.extract i (i + 1)), .int .i64 0, .int .i64 0, .string ⟨#[]⟩, .int .i64 i], .int .i64 0]) (by simp [results, Tryz.results152, go_sem, *]) rfl ⟨by rw [HE.out]; rfl, HB0.out⟩
end Go.Proofs.YtgjknekoehfdfaaGreatDoor
namespace Go.Proofs.YtgjknekoehfdfaaGreatDoor
open Go.RowKit
set_option linter.unusedVariables false

set_option maxHeartbeats 8000000 in
set_option maxRecDepth 100000 in
theorem one_colon_ok (s : ByteArray) (i : Nat) (w : World) (hi : i < s.size) (hs : s.size ≤ 140737488355328)
    (hc : bt s.data.toList i = 58) (hn : bt s.data.toList (i + 1) = 45) : OneOk s i w := by
  unfold OneOk
  have hE : oneS (s.data.toList.drop i) i = (⟨3, [58, 45], 0, 0, [], i⟩, 0) := by
    unfold oneS
    rw [drop0, drop1, if_pos hc, if_pos hn]
  have h1 : i + 1 < s.size := by
    rcases Nat.lt_or_ge (i + 1) s.size with h | h
    · exact h
    · rw [bt_past (show s.data.toList.length ≤ i + 1 from h)] at hn; omega
  have hbt := bt_of s i hi
  have hbt1 := bt_of s (i + 1) h1
  rw [hc] at hbt
  rw [hn] at hbt1
  have HB0 := Lib.hid (show Below w.heap.size w (w.alloc (.cells #[.int .i64 3, .string ⟨#[58, 45]⟩, .int .i64 0, .int .i64 0, .string ⟨#[]⟩, .int .i64 i] 101)) from balloc (Below.refl _ _) _)
  have HE := Lib.hid hE
  clear hE hc hn
  go_enter Tryz.func152, Tryz.ntmps152
  go_wp2_with fail
  refine bodyPost_ret (v := .tuple #[.agg #[.int .i64 3, .string ⟨#[58, 45]⟩, .int .i64 0, .int .i64 0, .string ⟨#[]⟩, .int .i64 i], .int .i64 0]) (by simp [results, Tryz.results152, go_sem, *]) rfl ⟨by rw [HE.out]; rfl, HB0.out⟩

set_option maxHeartbeats 8000000 in
set_option maxRecDepth 100000 in
theorem one_colon_bad (s : ByteArray) (i : Nat) (w : World) (hi : i < s.size) (hs : s.size ≤ 140737488355328)
    (hc : bt s.data.toList i = 58) (hn : bt s.data.toList (i + 1) ≠ 45) : OneOk s i w := by
  unfold OneOk
  have hE : oneS (s.data.toList.drop i) i = (tok0, 71) := by
    unfold oneS
    rw [drop0, drop1, if_pos hc, if_neg hn]
  have hbt := bt_of s i hi
  rw [hc] at hbt
  have HB0 := Lib.hid (show Below w.heap.size w (w.alloc (.cells #[.int .i64 0, .string ⟨#[]⟩, .int .i64 0, .int .i64 0, .string ⟨#[]⟩, .int .i64 0] 101)) from balloc (Below.refl _ _) _)
  have HE := Lib.hid hE
  have q : (bt s.data.toList (i + 1) != 45) = true := by simpa using hn
  have hbt1 : ∀ h : i + 1 < s.size, ((s[i + 1]'h).toNat : Int) = bt s.data.toList (i + 1) := bt_of s (i + 1)
  clear hE hc hn
  generalize bt s.data.toList (i + 1) = nx at *
  by_cases h1 : i + 1 < s.size
  all_goals
    go_enter Tryz.func152, Tryz.ntmps152
    go_wp2_with fail
    refine bodyPost_ret (v := .tuple #[.agg #[.int .i64 0, .string ⟨#[]⟩, .int .i64 0, .int .i64 0, .string ⟨#[]⟩, .int .i64 0], .int .i64 71]) (by simp [results, Tryz.results152, go_sem, *]) rfl ⟨by rw [HE.out]; rfl, HB0.out⟩

set_option maxHeartbeats 8000000 in
set_option maxRecDepth 100000 in
theorem one_minus_mark (s : ByteArray) (i : Nat) (w : World) (hi : i < s.size) (hs : s.size ≤ 140737488355328)
    (hc : bt s.data.toList i = 45) (hn : digB (bt s.data.toList (i + 1)) = false) : OneOk s i w := by
  unfold OneOk
  have hE : oneS (s.data.toList.drop i) i = (⟨3, (s.extract i (i + 1)).data.toList, 0, 0, [], i⟩, 0) := by
    unfold oneS
    rw [drop0, drop1, if_neg (by omega), if_neg (by
      have : digB (bt s.data.toList i) = false := by rw [hc]; rfl
      rw [this, hn]; simp; omega), if_pos (.inl hc), take_extract]
  have hbt := bt_of s i hi
  rw [hc] at hbt
  have HB0 := Lib.hid (show Below w.heap.size w (w.alloc (.cells #[.int .i64 3, .string (s.extract i (i + 1)), .int .i64 0, .int .i64 0, .string ⟨#[]⟩, .int .i64 i] 101)) from balloc (Below.refl _ _) _)
  have hle : (i : Int) + 1 ≤ s.size := by omega
  have HE := Lib.hid hE
  have hbt1 : ∀ h : i + 1 < s.size, ((s[i + 1]'h).toNat : Int) = bt s.data.toList (i + 1) := bt_of s (i + 1)
  clear hE hc
  generalize bt s.data.toList (i + 1) = nx at *
  by_cases h1 : i + 1 < s.size
  · have hx := hbt1 h1
    clear hbt1
    go_enter Tryz.func152, Tryz.ntmps152
    go_wp2_with (go_at_call 199; refine (lexDigit_any _ _).mono ?_; rintro e w' ⟨rfl, rfl⟩)
    refine bodyPost_ret (v := .tuple #[.agg #[.int .i64 3, .string (s.extract i (i + 1)), .int .i64 0, .int .i64 0, .string ⟨#[]⟩, .int .i64 i], .int .i64 0]) (by simp [results, Tryz.results152, go_sem, *]) rfl ⟨by rw [HE.out]; rfl, HB0.out⟩
  · have hd0 : digB 0 = false := rfl
    clear hbt1
    go_enter Tryz.func152, Tryz.ntmps152
    go_wp2_with (go_at_call 199; refine (lexDigit_any _ _).mono ?_; rintro e w' ⟨rfl, rfl⟩)
    refine bodyPost_ret (v := .tuple #[.agg #[.int .i64 3, .string (s.extract i (i + 1)), .int .i64 0, .int .i64 0, .string ⟨#[]⟩, .int .i64 i], .int .i64 0]) (by simp [results, Tryz.results152, go_sem, *]) rfl ⟨by rw [HE.out]; rfl, HB0.out⟩

set_option maxHeartbeats 8000000 in
set_option maxRecDepth 100000 in
theorem one_minus_lit (s : ByteArray) (i : Nat) (w : World) (hi : i < s.size) (hs : s.size ≤ 140737488355328) (hg : Glob w)
    (hc : bt s.data.toList i = 45) (hn : digB (bt s.data.toList (i + 1)) = true) : OneOk s i w := by
  unfold OneOk
  have hE : oneS (s.data.toList.drop i) i = litS (s.data.toList.drop i) i := by
    unfold oneS
    rw [drop0, drop1, if_neg (by omega), if_pos (.inr (.inr ⟨hc, hn⟩))]
  have h1 : i + 1 < s.size := by
    rcases Nat.lt_or_ge (i + 1) s.size with h | h
    · exact h
    · rw [bt_past (show s.data.toList.length ≤ i + 1 from h)] at hn; simp [digB] at hn
  have hbt := bt_of s i hi
  have hbt1 := bt_of s (i + 1) h1
  rw [hc] at hbt
  have HB0 := Lib.hid (show Below w.heap.size w (w.alloc (.cells #[.int .i64 0, .string ⟨#[]⟩, .int .i64 0, .int .i64 0, .string ⟨#[]⟩, .int .i64 0] 101)) from balloc (Below.refl _ _) _)
  have HLT := Lib.hid (fun W (hG : Glob W) => literal_any s i W hi hs hG)
  rw [hE]
  have HG := Lib.hid hg
  clear hE hc hg
  generalize bt s.data.toList (i + 1) = nx at *
  generalize litS (s.data.toList.drop i) i = r at *
  obtain ⟨⟨k, x, vk, vn, vt, p⟩, e0⟩ := r
  unfold Tok.v at *
  simp only at *
  go_enter Tryz.func152, Tryz.ntmps152
  go_wp2_with (go_at_call 199; refine (lexDigit_any _ _).mono ?_; rintro e w' ⟨rfl, rfl⟩)
  refine (HLT.out _ (HG.out.below HB0.out)).mono ?_
  rintro e w1 ⟨rfl, hb1⟩
  have hblk1 := (Blk.new w 101 #[.int .i64 0, .string ⟨#[]⟩, .int .i64 0, .int .i64 0, .string ⟨#[]⟩, .int .i64 0]).below hb1 (by simp)
  have hb1' := HB0.out.trans (hb1.mono (by simp))
  have HBLK := Lib.hid hblk1
  clear hblk1 hb1
  go_wp2_with (refine wpList_store_blk rfl 101 _ _ rfl w.heap.size 101 _ _ rfl rfl HBLK.out (by kernel_rfl) rfl (by simp [Value.oneCell']) ?_)
  intro w2 hb2 hm2 hz2
  have hB2 := Mod.own hb1' hm2 (Nat.le_refl _)
  have r0 := hb2.cell 0
  have r1 := hb2.cell 1
  have r2 := hb2.cell 2
  have r3 := hb2.cell 3
  have r4 := hb2.cell 4
  have r5 := hb2.cell 5
  have HB2 := Lib.hid hB2
  clear hb2 hm2 hz2 hB2 hb1'
  simp only [List.getElem?_toArray, List.getElem?_cons_zero, List.getElem?_cons_succ] at r0 r1 r2 r3 r4 r5
  go_wp2_with fail
  refine bodyPost_ret (v := .tuple #[.agg #[.int .i64 k, .string ⟨x.toArray⟩, .int .i64 vk, .int .i64 vn, .string ⟨vt.toArray⟩, .int .i64 p], .int .i64 e0]) (by simp [results, Tryz.results152, go_sem, *]) rfl ⟨rfl, HB2.out⟩
end Go.Proofs.YtgjknekoehfdfaaGreatDoor
