/- query.Plain's closure, walked: the name that stands for a variable. -/
import Derived.Test.YtgilflkgibfjgaaDoorNmZ
import Derived.Test.YtgilflkgibfjgaaDoorPn0Z
import Derived.Test.YtgilflkgibfjgaaDoorGa
import Derived.Test.YtgilflkgibfjgaaDoorLb
import Derived.Maps.OwnOps
import Derived.Maps.OwnSet
import Derived.Lib.ItoaLen
namespace Go.Proofs.YtgilflkgibfjgaaDoor
open Go.RowKit Go.Maps
set_option linter.unusedVariables false

def idxF (L : List (List UInt8)) (s : List UInt8) : Int := (L.idxOf s : Int)
theorem zeroI (w : World) : (zeroValue 3).run Tryd.prog w = .ok (.int .i64 0) w := by kernel_rfl
theorem idxF_le {L : List (List UInt8)} {s : List UInt8} (h : L.length ≤ 9007199254740991) : 0 ≤ idxF L s ∧ idxF L s ≤ 9007199254740991 := by
  have := List.idxOf_le_length (a := s) (l := L)
  unfold idxF
  omega
theorem Glob.low {B : Nat} {w w' : World} (h : Glob w) (hb : Below B w w') (hB : 6 ≤ B) : Glob w' := by
  obtain ⟨tp, p, h1⟩ := h.syn
  obtain ⟨tq, q, h2⟩ := h.rng
  exact ⟨⟨tp, p, var?_below hb (g := 4) (by kernel_rfl) (by omega) h1⟩, ⟨tq, q, var?_below hb (g := 5) (by kernel_rfl) (by omega) h2⟩,
    var?_below hb (g := 0) (by kernel_rfl) (by omega) h.tab, Nat.le_trans h.many hb.size⟩

set_option maxHeartbeats 2000000 in
set_option maxRecDepth 100000 in
theorem anew_any (W : World) (bn b : Nat) (L : List (List UInt8)) (s : List UInt8) (hbn : Blk W bn 98 #[.map (some b)]) (hm : NumMap W 3 b L (idxF L)) (hL : L.length ≤ 9007199254740990) (hs : s.length ≤ 140737488355328) (hg : Glob W) (h6 : 6 ≤ b) :
    Calls Tryd.prog 54 #[.string ⟨s.toArray⟩, .pointer (some ⟨bn, 0, none⟩)] W fun e W' => e = .returned (.string ⟨(vNo (addN L s) s).toArray⟩) ∧ NumMap W' 3 b (addN L s) (idxF (addN L s)) ∧ Mod (fun k => k = b) W W' := by
  have hnot : ∀ (x : Bool) (w : World), (Op.unary .not (.bool x)).run Tryd.prog w = .ok (.bool (!x)) w := fun _ _ => rfl
  obtain ⟨D, hown, hD⟩ := hm
  have x0 := hbn.cell 0
  have xl := hbn.lt
  simp only [List.getElem?_toArray, List.getElem?_cons_zero] at x0
  have HOW := Lib.hid hown
  have HD := Lib.hid hD
  have HG := Lib.hid hg
  have HBN := Lib.hid hbn
  clear hown hD hg hbn
  by_cases hm : s ∈ L
  · have hhas : Maps.has D (.string s) = true := by rw [HD.out.2.2.1, decide_eq_true hm]
    have ha : addN L s = L := by unfold addN; rw [if_pos hm]
    have hc0 := HD.out.2.2.2 s hm (.lit (.int .i64 0))
    obtain ⟨hi0, hi1⟩ := idxF_le (L := L) (s := s) (by omega)
    have hit := Tryd.strconv_Itoa (idxF L s) (by omega) (by omega) W HG.out.tab
    have htl := Lib.itoa_length_le (idxF L s) (by omega) (by omega)
    have hv : vNo L s = 118 :: Lib.itoa (idxF L s) := rfl
    rw [ha, hv]
    have HIT := Lib.hid hit
    have HC0 := Lib.hid hc0
    have HTL := Lib.hid htl
    clear hit hc0 htl hv ha
    obtain ⟨T, hT⟩ : ∃ T, Lib.itoa (idxF L s) = T := ⟨_, rfl⟩
    rw [hT] at HIT HTL ⊢
    clear hT
    have htl := HTL.out
    have hsz : (⟨T.toArray⟩ : ByteArray).size = T.length := by simp [ByteArray.size]
    have hov : ¬ 9223372036854775807 < 1 + T.length := by omega
    clear HTL
    go_enter Tryd.func54, Tryd.ntmps54
    go_wp2_with (at_lookup; refine wpList_lookup_own_ok_int _ rfl _ _ 98 rfl 9 3 .i64 Tryd.strKey Tryd.underlying98 Tryd.underlying3 (zeroI _) b L.length D rfl HOW.out _ _ rfl (strKl s hs) ?_)
    intro c hat hwc
    rw [HC0.out] at hat
    simp only [DataW.lit.injEq, Lit.int.injEq, true_and] at hat
    subst hat
    clear hwc
    go_wp2_with fail
    refine HIT.out.mono ?_
    rintro e w2 ⟨rfl, k, os, rfl⟩
    have hb2 : Below W.heap.size W (Sort.grow (W.drewN k) os) := Lib.below_grow _ _ (Nat.le_refl _) _ _
    have HB2 := Lib.hid hb2
    clear hb2
    go_wp2_with fail
    go_ret
    exact ⟨by first | rfl | simp, NumMap.below ⟨D, HOW.out, HD.out⟩ HB2.out (HOW.out.lt), Mod.ofBelow HB2.out⟩
  · have hhas : Maps.has D (.string s) = false := by rw [HD.out.2.2.1, decide_eq_false hm]
    have ha : addN L s = L ++ [s] := by unfold addN; rw [if_neg hm]
    have hsz2 : Maps.size D = L.length := HD.out.2.1
    have hidx : idxF (L ++ [s]) s = (L.length : Int) := by
      unfold idxF
      rw [List.idxOf_append, if_neg hm]
      simp
    have hv : vNo (L ++ [s]) s = 118 :: Lib.itoa (L.length : Int) := by
      show 118 :: Lib.itoa (idxF (L ++ [s]) s) = _
      rw [hidx]
    rw [ha, hv]
    have hit := fun W' (h : Glob W') => Tryd.strconv_Itoa (L.length : Int) (by omega) (by omega) W' h.tab
    have htl := Lib.itoa_length_le (L.length : Int) (by omega) (by omega)
    have hput : DMap (D.put (.string s) (.lit (.int .i64 (L.length : Int)))) (L ++ [s]) (idxF (L ++ [s])) := HD.out.put hm hidx fun t ht => by
      unfold idxF
      rw [List.idxOf_append, if_pos ht]
    have HIT := Lib.hid hit
    have HTL := Lib.hid htl
    have HPUT := Lib.hid hput
    have HS2 := Lib.hid hsz2
    clear hit htl hv ha hidx hput hsz2
    obtain ⟨T, hT⟩ : ∃ T, Lib.itoa (L.length : Int) = T := ⟨_, rfl⟩
    rw [hT] at HIT HTL ⊢
    clear hT
    have htl := HTL.out
    have hsz : (⟨T.toArray⟩ : ByteArray).size = T.length := by simp [ByteArray.size]
    have hov : ¬ 9223372036854775807 < 1 + T.length := by omega
    clear HTL
    have hlen : (L ++ [s]).length = L.length + 1 := by simp
    have HLEN := Lib.hid hlen
    clear hlen
    generalize L ++ [s] = L2 at *
    generalize hN : L.length = n at *
    have HN := Lib.hid hN
    clear hN
    have hd0 : (decide ((n : Int) < 0)) = false := by simp
    go_enter Tryd.func54, Tryd.ntmps54
    go_wp2_with (at_lookup; refine wpList_lookup_own_ok_int _ rfl _ _ 98 rfl 9 3 .i64 Tryd.strKey Tryd.underlying98 Tryd.underlying3 (zeroI _) b n D rfl HOW.out _ _ rfl (strKl s hs) ?_)
    intro c hat hwc
    clear hat hwc
    have hs2 := HS2.out
    go_wp2_with (first | (at_len; refine wpList_len_own _ rfl _ 98 rfl 9 3 Tryd.underlying98 _ b n D rfl HOW.out ?_) | (at_mapUpdate; refine wpList_mapUpdate_own _ rfl _ _ _ 98 rfl 9 3 Tryd.strKey Tryd.underlying98 _ b n D rfl HOW.out (by unfold maxLen; omega) _ _ _ rfl rfl (strKl s hs) _ [] (plainElem_int Tryd.underlying3 (WalkArith.wf_i64 ⟨by omega, by omega⟩)) ?_))
    clear hs2
    intro w1 hown1 hgrow1
    have hm1 : Mod (fun k => k = b) W w1 := (Mod.refl _ _).grown hgrow1 (fun k hk _ => by simp only [Option.some.injEq] at hk; exact hk.symm)
    have hb1 : Below b W w1 := hm1.below (Nat.le_of_lt HOW.out.lt) (fun i e => Nat.le_of_eq e.symm)
    have HI1 := Lib.hid (HIT.out w1 (HG.out.low hb1 h6))
    have HO1 := Lib.hid hown1
    have HM1 := Lib.hid hm1
    clear hown1 hgrow1 hm1 hb1
    go_wp2_with fail
    refine HI1.out.mono ?_
    rintro e w2 ⟨rfl, k, os, rfl⟩
    have hb2 : Below w1.heap.size w1 (Sort.grow (w1.drewN k) os) := Lib.below_grow _ _ (Nat.le_refl _) _ _
    have HB2 := Lib.hid hb2
    clear hb2
    go_wp2_with fail
    go_ret
    refine ⟨by first | rfl | simp, NumMap.below ⟨_, ?_, HPUT.out⟩ HB2.out (HO1.out.lt), HM1.out.trans (Mod.ofBelow (F := fun k => k = b) HB2.out) (fun i _ e => e)⟩
    rw [HLEN.out]
    exact HO1.out
end Go.Proofs.YtgilflkgibfjgaaDoor
