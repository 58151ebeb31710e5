/- osierlaw03.ArenaOnce, walked. -/
import Derived.Test.YtppoakomeaamhaaOn2
import Derived.Outline
import Derived.Deep.RegionWith
namespace Go.Proofs.Ytppoakomeaamhaa
open Go.RowKit
set_option linter.unusedVariables false

theorem strike_at (v : Int) (l : Nat) (h0 : 0 < l) (hl : l ≤ 9223372036854775807) : ∃ k : Nat, wrap64 ((IntKind.u64.wrap v).tmod (l : Int)) = (k : Int) ∧ k < l := by
  have h1 : 0 ≤ IntKind.u64.wrap v := by
    unfold IntKind.wrap
    rw [show IntKind.u64.signed = false from rfl, show IntKind.u64.bits = 64 from rfl]
    simp
    omega
  have h2 := Int.tmod_nonneg (l : Int) h1
  have h3 := Int.tmod_lt_of_pos (IntKind.u64.wrap v) (show (0 : Int) < l by omega)
  obtain ⟨k, hk⟩ := Int.eq_ofNat_of_zero_le h2
  refine ⟨k, ?_, by omega⟩
  rw [hk]
  unfold wrap64
  omega

/-- Filled up with references that no arena tells. -/
def PadOf (R RP : List (Int × Int)) : Prop := ∃ P, RP = R ++ P ∧ ∀ r ∈ P, r.1 < 0
theorem PadOf.more {R RP : List (Int × Int)} (h : PadOf R RP) (x : Int) : PadOf R (RP ++ [(-1, x)]) := by
  obtain ⟨P, rfl, hP⟩ := h
  refine ⟨P ++ [(-1, x)], by simp, ?_⟩
  intro r hr
  simp at hr
  rcases hr with hr | rfl
  · exact hP r hr
  · simp
def lenOf : Value → Nat
  | .slice _ n _ => n
  | _ => 0
/-- The variable that holds the reference told last; it is not in the row rv. -/
def RefAt (w : World) (b i : Nat) (g : Int) (rv : Value) : Prop := b < w.heap.size ∧ w.cell? ⟨b, 0, none⟩ = some (.int .i64 i) ∧ w.cell? ⟨b, 1, none⟩ = some (.int .i64 g) ∧ rv.ownBlock ≠ some b
theorem Try.infoRef : (Try.prog.info? 40).map (fun i => (i.zero, i.size, i.bytes)) = some (some (.agg #[.int .i64 0, .int .i64 0]), 2, 16) := by kernel_rfl

theorem pad_mem {w wr wr' : World} {p : Nat} {most gens : Int} {sl : List Slot} {fr : List Int} {live : Int} {vs vf vl : Value} {R : List (Int × Int)} {L : List Nat} {ap : Option Addr} {g1 capp cap1 : Nat} {x y : Int} {o : Obj} (h : OMem w wr p most gens sl fr live vs vf (.slice ap R.length capp) vl R L)
    (hg : (wr.alloc o).grownBy wr' (Value.slice ap R.length capp).ownBlock) (hown : wr'.ownsRow w.heap.size 40 2 (.slice (some ⟨g1, 0, none⟩) (R.length + 1) cap1) (R.length + 1) (R.flatMap rc ++ [.int .i64 x, .int .i64 y])) :
    OMem w wr' p most gens sl fr live vs vf (.slice (some ⟨g1, 0, none⟩) (R.length + 1) cap1) vl (R ++ [(x, y)]) L :=
  h.told (grown_of_alloc (k := 0) hg) (by rw [rc_snoc]; simpa using hown)

theorem refat_grown {w w' : World} {b i m g1 cap1 : Nat} {g : Int} {rv : Value} {o : Obj} (h : RefAt w b i g rv) (hg : (w.alloc o).grownBy w' rv.ownBlock) (hat : rv.ownBlock = some g1 ∨ g1 = w.heap.size + 1) : RefAt w' b i g (.slice (some ⟨g1, 0, none⟩) m cap1) := by
  obtain ⟨h0, h1, h2, h3⟩ := h
  have hg' : w.grownBy w' rv.ownBlock := grown_of_alloc (k := 0) hg
  have hm : Mod (fun k => rv.ownBlock = some k) w w' := (Mod.refl _ _).grown hg' (fun k hk _ => hk)
  refine ⟨Nat.lt_of_lt_of_le h0 hg'.size, hm.cellOf h1 h3, hm.cellOf h2 h3, ?_⟩
  intro e
  simp [Value.ownBlock] at e
  subst e
  rcases hat with e | e
  · exact h3 e
  · omega

theorem live_mem {w wr wr' : World} {p : Nat} {most gens : Int} {sl : List Slot} {fr : List Int} {live : Int} {vs vf vr : Value} {R : List (Int × Int)} {L : List Nat} {al : Option Addr} {g1 capl cap1 i : Nat} {o : Obj} (h : OMem w wr p most gens sl fr live vs vf vr (.slice al L.length capl) R L)
    (hg : (wr.alloc o).grownBy wr' (Value.slice al L.length capl).ownBlock) (hown : wr'.ownsRow w.heap.size 3 1 (.slice (some ⟨g1, 0, none⟩) (L.length + 1) cap1) (L.length + 1) (L.map lc ++ [.int .i64 (i : Int)])) (hat : (Value.slice al L.length capl).ownBlock = some g1 ∨ g1 = wr.heap.size + 1) :
    OMem w wr' p most gens sl fr live vs vf vr (.slice (some ⟨g1, 0, none⟩) (L.length + 1) cap1) R (L ++ [i]) := by
  refine h.lived ((Mod.refl _ _).grown (grown_of_alloc (k := 0) hg) (fun k hk _ => hk)) (by rw [lc_snoc]; simpa using hown) ?_
  rcases hat with e | e
  · exact .inl e.symm
  · right
    intro k hk
    simp [Value.ownBlock] at hk
    omega

theorem o_take_pad {n : Nat} {sl sl' : List Slot} {R RP : List (Int × Int)} {L : List Nat} {i : Nat} {g : Int} (h : OInv n sl R L) (ht : Taken sl sl' i g (.int .i64 n)) (hp : PadOf R RP) (hl : RP.length = n) : OInv (n + 1) sl' (RP ++ [((i : Int), g)]) (L ++ [n]) := by
  obtain ⟨P, rfl, hP⟩ := hp
  exact h.take ht (by simpa using hl) hP

/-- Does j stand among the first q of the living? -/
def inTo (L : List Nat) (q j : Nat) : Bool := (L.take q).contains j
theorem inTo_zero (L : List Nat) (j : Nat) : inTo L 0 j = false := by simp [inTo]
theorem inTo_succ (L : List Nat) (q j m : Nat) (h : L[q]? = some m) : inTo L (q + 1) j = (inTo L q j || decide (m = j)) := by
  unfold inTo
  rw [List.take_add_one, h]
  rw [Bool.eq_iff_iff]
  simp
  constructor <;> rintro (h | h) <;> simp_all
theorem inTo_yes {L : List Nat} {j : Nat} (h : j ∈ L) : inTo L L.length j = true := by simp [inTo, h]
theorem inTo_no {L : List Nat} {j : Nat} (h : ¬ j ∈ L) : inTo L L.length j = false := by simp [inTo, h]

theorem omem_start (w : World) (s g : Int) : OMem w (w.alloc (.cells #[.int .i64 s, .int .i64 g, .slice none 0 0, .slice none 0 0, .int .i64 0] 61)) w.heap.size s g [] [] 0 (.slice none 0 0) (.slice none 0 0) (.slice none 0 0) (.slice none 0 0) [] [] := by
  refine ⟨empty_rep w _ _ s g, World.ownsRow_nil _ _ _ _, World.ownsRow_nil _ _ _ _, fun k hk => by simp [Value.ownBlock] at hk, ?_, balloc (Below.refl _ _) _⟩
  rintro k (rfl | hk | hk)
  · exact Nat.le_refl _
  · cases hk
  · cases hk

theorem struck_mem {w wr : World} {p : Nat} {most gens : Int} {sl : List Slot} {fr : List Int} {live : Int} {vs vf vr : Value} {R : List (Int × Int)} {L : List Nat} {gl capl k : Nat} (h : OMem w wr p most gens sl fr live vs vf vr (.slice (some ⟨gl, 0, none⟩) L.length capl) R L) (hk : k < L.length) :
    OMem w (wr.drew.setCells gl k (movedL L k)) p most gens sl fr live vs vf vr (.slice (some ⟨gl, 0, none⟩) (k + (L.length - (k + 1))) capl) R (L.eraseIdx k) := by
  have h1 := h.keep (bdrew (Below.refl _ _))
  have hm : Mod (fun j => (Value.slice (some ⟨gl, 0, none⟩) L.length capl).ownBlock = some j) wr.drew (wr.drew.setCells gl k (movedL L k)) := Mod.setCells (F := fun j => (Value.slice (some ⟨gl, 0, none⟩) L.length capl).ownBlock = some j) (fun _ => rfl) _ _ _ (Mod.refl _ _)
  exact h1.lived hm (own_struck h1.lives hk) (.inl rfl)

set_option maxHeartbeats 8000000 in
set_option maxRecDepth 100000 in
theorem once_good (s g : Int) (sv : Value) (n : Nat) (w : World) (hsc : Script w sv n) (hg : goodB s g = true) :
    Calls Try.prog 4 #[.int .i64 s, .int .i64 g, sv] w fun e w' => e = .returned (.bool true) ∧ Below w.heap.size w w' := by
  obtain ⟨h1, h2, h3, h4⟩ : 1 ≤ s ∧ s ≤ 1048576 ∧ 1 ≤ g ∧ g ≤ 1073741824 := by simpa [goodB] using hg
  obtain ⟨hn, ad, cap, rfl, hcells⟩ := hsc
  have HC := Lib.hid hcells
  clear hcells
  have HG := Lib.hid hg
  clear hg
  obtain ⟨i0, hi0, hz0, hz1, hz2⟩ := info_parts Try.infoInt
  obtain ⟨r0, hr0, hy0, hy1, hy2⟩ := info_parts Try.infoRef
  go_enter Try.func4, Try.ntmps4
  go_wp2_with fail
  refine (new_good s g w h1 h2 h3 h4).mono ?_
  rintro e w1 ⟨rfl, rfl⟩
  go_wp2_with fail
  refine (good_any s g _).mono ?_
  rintro e w3 ⟨rfl, rfl⟩
  rw [HG.out]
  have hm0 := omem_start w s g
  have HM0 := Lib.hid hm0
  have HI0 := Lib.hid (inv_empty s g h1 h2 h3 h4)
  clear hm0
  go_wp2_with fail
  go_loopw [48, 9, 10] (fun ix vr vl wr => ∃ (i : Nat) (sl : List Slot) (fr : List Int) (live : Int) (vs vf : Value) (R : List (Int × Int)) (L : List Nat), i ≤ n ∧ ix = .int .i64 i ∧ AInv s g sl fr live ∧ live = L.length ∧ OInv i sl R L ∧ OMem w wr w.heap.size s g sl fr live vs vf vr vl R L) (fun ix _ _ _ => n - (intOf ix).toNat)
  case atStart => exact ⟨0, [], [], 0, _, _, [], [], Nat.zero_le _, rfl, HI0.out, by simp, o_empty, HM0.out⟩
  case round =>
    obtain ⟨wo, rfl⟩ : ∃ wo : World, wo = wr := ⟨_, rfl⟩
    obtain ⟨i, sl, fr, live, vs, vf, R, L, hi, rfl, hinv, hlv, hoi, hom⟩ := hrel
    have hLs : L.length ≤ 1048576 := by have h1 := hinv.count; have h2 := hinv.len; have h3 := hinv.m2; rw [hlv] at h1; omega
    have HIN := Lib.hid hinv
    have HLV := Lib.hid hlv
    have HOI := Lib.hid hoi
    have HOM := Lib.hid hom
    clear hinv hlv hoi hom
    by_cases hlt : i < n
    · rcases HC.out with h0 | ⟨b, off, f, rfl, hb, hcs⟩
      · omega
      · obtain ⟨c0, c1, c2, c3⟩ := hcs i hlt
        have hcell : ∀ j v, w.cell? ⟨b, off + i * 4 + j, none⟩ = some v → wo.cell? ⟨b, off + i * 4 + j, none⟩ = some v := fun j v h => (HOM.out.bel.cell (p := ⟨b, off + i * 4 + j, none⟩) hb).trans h
        have c0 := hcell 0 _ c0
        have c1 := hcell 1 _ c1
        have c2 := hcell 2 _ c2
        have c3 := hcell 3 _ c3
        simp only [Nat.add_zero] at c0
        generalize f i = op at *
        obtain ⟨o0, o1, o2, o3⟩ := op
        simp only at c0 c1 c2 c3
        obtain ⟨ar, capr, rfl, hlr⟩ := own_len HOM.out.refs
        obtain ⟨al, capl, rfl, hll⟩ := own_len HOM.out.lives
        have hRi := HOI.out.len
        unfold maxLen at hlr hll
        have hsz := HOM.out.bel.size
        clear hcs hcell
        by_cases hop : o0 = 2 ∧ 0 < L.length
        · obtain ⟨rfl, hL0⟩ := hop
          obtain ⟨k, hk, hkl⟩ : ∃ k : Nat, wrap64 ((IntKind.u64.wrap o3).tmod ↑L.length) = (k : Int) ∧ k < L.length := strike_at o3 L.length hL0 (by omega)
          obtain ⟨gl, capl', e1, hgl, hcl, hcm⟩ := own_at HOM.out.lives hL0
          simp only [Value.slice.injEq, true_and] at e1
          obtain ⟨rfl, rfl⟩ := e1
          obtain ⟨m, hm⟩ : ∃ m, L[k]? = some m := ⟨L[k], List.getElem?_eq_getElem hkl⟩
          obtain ⟨i', s', hRm, hs', ha', hth⟩ := HOI.out.lv m (List.mem_of_getElem? hm)
          have hmR : m < R.length := (List.getElem?_eq_some_iff.1 hRm).1
          obtain ⟨gr, capr', e2, hgr, hcr, hcrm⟩ := own_at HOM.out.refs (show 0 < R.length by omega)
          simp only [Value.slice.injEq, true_and] at e2
          obtain ⟨rfl, rfl⟩ := e2
          have d0 : wo.cell? ⟨gl, k, none⟩ = some (.int .i64 (m : Int)) := (HOM.out.lives.cellAt k (by omega)).trans (by simp [hm, lc])
          obtain ⟨x0, x1⟩ := rc_at R m _ hRm
          have d1 := (HOM.out.refs.cellAt (m * 2) (by omega)).trans x0
          have d2 := (HOM.out.refs.cellAt (m * 2 + 1) (by omega)).trans x1
          unfold maxLen at hcm hcrm
          have HM := Lib.hid hm
          have HRM := Lib.hid hRm
          have HS := Lib.hid hs'
          have HTH := Lib.hid hth
          clear hm hRm hs' hth x0 x1
          go_wp2_with fail
          refine (give_any _ _ _ _ sl fr live vs vf (HOM.out.keep (balloc (Below.refl _ _) _)).rep HIN.out i' s' HS.out ha' s'.gen rfl).mono ?_
          rintro e w5 ⟨fr', vf', rfl, hnow, hinv', hfree⟩
          have hom5 := (HOM.out.keep (balloc (Below.refl _ _) _)).step hnow
          have HOM5 := Lib.hid hom5
          have HIN5 := Lib.hid hinv'
          clear hnow hinv' hfree hom5 d0 d1 d2 c0 c1 c2 c3
          have hnews : ∃ A : Addr, (if capl = k + 1 then some (⟨gl, 0, none⟩ : Addr) else some ⟨gl, k + 1, none⟩) = some A ∧ Hid (∀ W : World, W.ownsRow w.heap.size 3 1 (.slice (some ⟨gl, 0, none⟩) L.length capl) L.length (L.map lc) → ∀ j u, (movedL L k)[j]? = some u → W.cell? (A.add j) = some u) := by
            by_cases hc : capl = k + 1
            · refine ⟨⟨gl, 0, none⟩, by rw [if_pos hc], fun W hW j u hu => ?_⟩
              have h0 : (movedL L k).length = 0 := by rw [movedL_len]; omega
              rw [List.length_eq_zero_iff.1 h0] at hu
              simp at hu
            · refine ⟨⟨gl, k + 1, none⟩, by rw [if_neg hc], fun W hW j u hu => ?_⟩
              have hj : j < L.length - (k + 1) := by
                have := (List.getElem?_eq_some_iff.1 hu).1
                rwa [movedL_len] at this
              rw [Addr.add_lit, hW.cellAt _ (by omega), ← hu, movedL, List.map_drop, List.getElem?_drop]
          obtain ⟨A, hA, hnews⟩ := hnews
          have hwr : IntKind.i64.wrap ((k : Int) + 1) = (k : Int) + 1 := by rw [IntKind.wrap_i64]; omega
          have hp0 : (0 : Int) ≤ (k : Int) + 1 := by omega
          have hp1 : (k : Int) + 1 ≤ (L.length : Int) := by omega
          have hp2 : ((k : Int) + 1).toNat = k + 1 := by omega
          have hkc : k ≤ capl := by omega
          have hspare : Hid (∀ j, j < (movedL L k).length → (w5.drew.cell? ⟨gl, 0 + k * 1 + j, none⟩).isSome = true ∧ w5.drew.frozen? ⟨gl, 0 + k * 1 + j, none⟩ = false) := by
            intro j hj
            rw [movedL_len] at hj
            refine ⟨?_, HOM5.out.lives.frozenAt _⟩
            show (w5.cell? _).isSome = true
            rw [HOM5.out.lives.cellAt _ (by omega), List.getElem?_eq_getElem (by simp; omega)]
            rfl
          have hone : Hid (∀ u ∈ movedL L k, u.oneCell' = true) := by
            intro u hu
            obtain ⟨x, _, rfl⟩ := List.mem_map.1 hu
            rfl
          have hnw := Lib.hid (hnews.out w5.drew HOM5.out.lives)
          clear hnews
          go_wp2_with fail
          go_region_law (refine step_append_room rfl (.tmp 81) (.tmp 85) 34 rfl 3 i0 1 Try.underlying34 hi0 hz1 gl 0 k capl (by simp [Act.eval, Act.put]) A (L.length - (k + 1)) (capl - (k + 1)) (movedL L k) (by simp [Act.eval, Act.put]) (by rw [movedL_len, Nat.mul_one]) hnw.out hone.out (by omega) hspare.out ?_)
          all_goals
            go_wp2_with fail
            go_roundw
            case rel => exact ⟨i + 1, _, fr', live - 1, vs, vf', R, L.eraseIdx k, by omega, by go_num, HIN5.out, by rw [List.length_eraseIdx_of_lt hkl, HLV.out]; omega, (HOI.out.give HM.out HRM.out HS.out HTH.out _).skip, struck_mem HOM5.out hkl⟩
            case measure => simp only [intOf]; omega
        · have hor : (o0 == 2) = false ∨ (o0 = 2 ∧ decide (0 < L.length) = false) := by
            by_cases h : o0 = 2
            · exact .inr ⟨h, decide_eq_false (fun h0 => hop ⟨h, h0⟩)⟩
            · exact .inl (beq_eq_false_iff_ne.2 h)
          clear hop
          rcases hor with hor | ⟨rfl, hor⟩
          all_goals
            go_wp2_with fail
            refine (take_any _ _ _ _ sl fr live vs vf i (HOM.out.keep (balloc (Below.refl _ _) _)).rep HIN.out).mono ?_
            rintro e w5 (⟨rfl, hb5, _, _⟩ | ⟨i', g', sl', fr', vs', vf', rfl, hnow, hinv', htk, _⟩)
            · go_wp2_with fail
              go_roundw
              case rel => exact ⟨i + 1, sl, fr, live, vs, vf, R, L, by omega, by go_num, HIN.out, HLV.out, HOI.out.skip, ((HOM.out.keep (balloc (Below.refl _ _) _)).keep hb5).keep (balloc (Below.refl _ _) _)⟩
              case measure => simp only [intOf]; omega
            · have HOM5 := Lib.hid ((HOM.out.keep (balloc (Below.refl _ _) _)).step hnow)
              have HIN5 := Lib.hid hinv'
              have HTK := Lib.hid htk
              clear hnow hinv' htk c0 c1 c2 c3
              go_wp2_with fail
              go_loopw [97] (fun jx wq => ∃ j : Nat, j ≤ R.length ∧ jx = .int .i64 j ∧ Below (w5.heap.size + 1) (w5.alloc (.cells #[.int .i64 i', .int .i64 g'] 40)) wq) (fun jx _ => R.length - (intOf jx).toNat)
              case atStart => exact ⟨0, Nat.zero_le _, rfl, Below.refl _ _⟩
              case round =>
                obtain ⟨j, hj, rfl, hbq⟩ := hrel
                have hbq' : Below (w5.alloc (.cells #[.int .i64 i', .int .i64 g'] 40)).heap.size (w5.alloc (.cells #[.int .i64 i', .int .i64 g'] 40)) wr := by simpa using hbq
                by_cases hlj : j < R.length
                · obtain ⟨r, hr⟩ : ∃ r, R[j]? = some r := ⟨R[j], List.getElem?_eq_getElem hlj⟩
                  have hrne := HOI.out.fresh HTK.out r (List.mem_of_getElem? hr)
                  obtain ⟨x0, x1⟩ := rc_at R j _ hr
                  have HQ := Lib.hid ((HOM5.out.keep (balloc (Below.refl _ _) (.cells #[.int .i64 i', .int .i64 g'] 40))).keep hbq')
                  obtain ⟨gr, capr', e2, hgr, hcr, hcrm⟩ := own_at HQ.out.refs (show 0 < R.length by omega)
                  simp only [Value.slice.injEq, true_and] at e2
                  obtain ⟨rfl, rfl⟩ := e2
                  have d1 := (HQ.out.refs.cellAt (j * 2) (by omega)).trans x0
                  have d2 := (HQ.out.refs.cellAt (j * 2 + 1) (by omega)).trans x1
                  have e0 := hbq'.cell (p := ⟨w5.heap.size, 0, none⟩) (by simp)
                  have e1 := hbq'.cell (p := ⟨w5.heap.size, 1, none⟩) (by simp)
                  simp at e0 e1
                  have hs5 : w5.heap.size < wr.heap.size := by have := hbq'.size; simp at this; omega
                  obtain ⟨ra, rb⟩ := r
                  simp only at d1 d2
                  clear x0 x1 hr
                  have hor2 : (ra == (i' : Int)) = false ∨ (ra = i' ∧ (rb == g') = false) := by
                    by_cases h : ra = i'
                    · exact .inr ⟨h, beq_eq_false_iff_ne.2 (fun h0 => hrne (by rw [h, h0]))⟩
                    · exact .inl (beq_eq_false_iff_ne.2 h)
                  clear hrne
                  rcases hor2 with hor2 | ⟨rfl, hor2⟩
                  all_goals
                    go_wp2_with fail
                    go_roundw
                    case rel => exact ⟨j + 1, by omega, by go_num, by simpa using balloc hbq' _⟩
                    case measure => simp only [intOf]; omega
                · obtain ⟨w6, rfl⟩ : ∃ w6 : World, w6 = wr := ⟨_, rfl⟩
                  have hje : j = R.length := by omega
                  subst hje
                  have HQ := Lib.hid ((HOM5.out.keep (balloc (Below.refl _ _) (.cells #[.int .i64 i', .int .i64 g'] 40))).keep hbq')
                  have e0 := hbq'.cell (p := ⟨w5.heap.size, 0, none⟩) (by simp)
                  have e1 := hbq'.cell (p := ⟨w5.heap.size, 1, none⟩) (by simp)
                  simp at e0 e1
                  have hs5 : w5.heap.size < w6.heap.size := by have := hbq'.size; simp at this; omega
                  go_wp2_with fail
                  go_loopw [9] (fun rv wq => ∃ RP : List (Int × Int), PadOf R RP ∧ RP.length ≤ i ∧ OMem w wq w.heap.size s g sl' fr' (live + 1) vs' vf' rv (.slice al L.length capl) RP L ∧ RefAt wq w5.heap.size i' g' rv) (fun rv _ => i - lenOf rv)
                  case atStart => exact ⟨R, ⟨[], by simp, by simp⟩, HOI.out.len, HQ.out, ⟨hs5, e0, e1, fun e => absurd (HOM5.out.refs.lt _ e).2 (Nat.lt_irrefl _)⟩⟩
                  case round =>
                    obtain ⟨RP, hpad, hrl, homp, hra⟩ := hrel
                    have HP := Lib.hid homp
                    have HPAD := Lib.hid hpad
                    have HRA := Lib.hid hra
                    obtain ⟨hs7, e0, e1, _⟩ := hra
                    clear homp hpad
                    obtain ⟨ap, capp, rfl, hlp⟩ := own_len HP.out.refs
                    unfold maxLen at hlp
                    have hz := HP.out.bel.size
                    by_cases hpl : RP.length < i
                    · go_wp2_with (at_builtin; refine wpList_append_lies _ rfl (.tmp 109) (.tmp 114) 33 rfl w.heap.size 40 r0 (.agg #[.int .i64 0, .int .i64 0]) 2 16 Try.underlying33 hr0 hy0 hy1 hy2 rfl (by decide) (.slice ap RP.length capp) RP.length _ rfl (HP.out.refs.alloc _) ⟨wr.heap.size, 0, none⟩ 1 1 [.int .i64 (-1), .int .i64 (-1 - (RP.length : Int))] rfl rfl ?c1 ?c2 (by decide) ?c3 (by omega) ?c4 (wr.heap.size + 1) (by simp) ?_)
                      case c1 => exact World.news_of_block (Blk.new wr 40 #[.int .i64 (-1), .int .i64 (-1 - (RP.length : Int))])
                      case c2 => intro u hu; simp at hu; rcases hu with rfl | rfl <;> rfl
                      case c3 => unfold maxLen; omega
                      case c4 => simp; omega
                      intro g1 cap1 w7 hown1 hgrow1 hat1 hlt1
                      have hpm := pad_mem HP.out hgrow1 hown1
                      have HRA' := Lib.hid (refat_grown (m := RP.length + 1) (cap1 := cap1) HRA.out hgrow1 hat1)
                      clear hown1 hgrow1 hat1
                      have HPM := Lib.hid hpm
                      clear hpm
                      go_wp2_with fail
                      go_roundw
                      case rel => exact ⟨RP ++ [(-1, -1 - (RP.length : Int))], HPAD.out.more _, by simp; omega, HPM.out, HRA'.out⟩
                      case measure => simp only [lenOf]; omega
                    · have hpe : RP.length = i := by omega
                      have HPE := Lib.hid hpe
                      clear hpe
                      go_wp2_with (at_builtin; refine wpList_append_lies _ rfl (.tmp 116) (.tmp 118) 33 rfl w.heap.size 40 r0 (.agg #[.int .i64 0, .int .i64 0]) 2 16 Try.underlying33 hr0 hy0 hy1 hy2 rfl (by decide) (.slice ap RP.length capp) RP.length _ rfl (HP.out.refs.alloc _) ⟨wr.heap.size, 0, none⟩ 1 1 [.int .i64 (i' : Int), .int .i64 g'] rfl rfl ?c1 ?c2 (by decide) ?c3 (by omega) ?c4 (wr.heap.size + 1) (by simp) ?_)
                      case c1 => exact World.news_of_block (Blk.new wr 40 #[.int .i64 (i' : Int), .int .i64 g'])
                      case c2 => intro u hu; simp at hu; rcases hu with rfl | rfl <;> rfl
                      case c3 => unfold maxLen; omega
                      case c4 => simp; omega
                      intro g1 cap1 w7 hown1 hgrow1 hat1 hlt1
                      have HPM := Lib.hid (pad_mem HP.out hgrow1 hown1)
                      have hz7 := HPM.out.bel.size
                      clear hown1 hgrow1 hat1
                      go_wp2_with (at_builtin; refine wpList_append_lies _ rfl (.tmp 120) (.tmp 122) 34 rfl w.heap.size 3 i0 (.int .i64 0) 1 8 Try.underlying34 hi0 hz0 hz1 hz2 rfl (by decide) (.slice al L.length capl) L.length _ rfl (HPM.out.lives.alloc _) ⟨w7.heap.size, 0, none⟩ 1 1 [.int .i64 (i : Int)] rfl rfl ?c1 ?c2 (by decide) ?c3 ?c5 ?c4 (w7.heap.size + 1) (by simp) ?_)
                      case c1 => exact World.news_of_block (Blk.new w7 3 #[.int .i64 (i : Int)])
                      case c2 => intro u hu; simp at hu; rcases hu with rfl; rfl
                      case c3 => unfold maxLen; omega
                      case c5 => omega
                      case c4 => simp; omega
                      intro g2 cap2 w8 hown2 hgrow2 hat2 hlt2
                      have HLM := Lib.hid (live_mem HPM.out hgrow2 hown2 hat2)
                      clear hown2 hgrow2 hat2
                      go_wp2_with fail
                      go_roundw
                      case rel => exact ⟨i + 1, sl', fr', live + 1, vs', vf', RP ++ [((i' : Int), g')], L ++ [i], by omega, by go_num, HIN5.out, by rw [HLV.out]; simp, o_take_pad HOI.out HTK.out HPAD.out HPE.out, HLM.out⟩
                      case measure => simp only [intOf]; omega
    · have hie : i = n := by omega
      subst hie
      go_wp2_with fail
      refine (len_any _ _ _ _ sl fr live vs vf HOM.out.rep).mono ?_
      rintro e w3 ⟨rfl, rfl⟩
      rw [HLV.out]
      obtain ⟨ar, capr, rfl, hlr⟩ := own_len HOM.out.refs
      obtain ⟨al, capl, rfl, hll⟩ := own_len HOM.out.lives
      unfold maxLen at hlr hll
      have hsz := HOM.out.bel.size
      go_wp2_with fail
      go_loopw [132] (fun jx wq => ∃ j : Nat, j ≤ R.length ∧ jx = .int .i64 j ∧ Below wo.heap.size wo wq) (fun jx _ => R.length - (intOf jx).toNat)
      case atStart => exact ⟨0, Nat.zero_le _, rfl, Below.refl _ _⟩
      case round =>
        obtain ⟨j, hj, rfl, hbq⟩ := hrel
        have HB := Lib.hid hbq
        have HQ := Lib.hid (HOM.out.keep hbq)
        have hsq := hbq.size
        clear hbq
        by_cases hlj : j < R.length
        · obtain ⟨r, hr⟩ : ∃ r, R[j]? = some r := ⟨R[j], List.getElem?_eq_getElem hlj⟩
          obtain ⟨x0, x1⟩ := rc_at R j _ hr
          obtain ⟨gr, capr', e2, hgr, hcr, hcrm⟩ := own_at HQ.out.refs (show 0 < R.length by omega)
          simp only [Value.slice.injEq, true_and] at e2
          obtain ⟨rfl, rfl⟩ := e2
          have d1 := (HQ.out.refs.cellAt (j * 2) (by omega)).trans x0
          have d2 := (HQ.out.refs.cellAt (j * 2 + 1) (by omega)).trans x1
          have HR := Lib.hid hr
          obtain ⟨ra, rb⟩ := r
          simp only at d1 d2
          clear x0 x1 hr
          go_wp2_with fail
          go_loop [139, 20] (fun qx av => ∃ q : Nat, q ≤ L.length ∧ qx = .int .i64 q ∧ av = .bool (inTo L q j)) (fun qx _ => L.length - (intOf qx).toNat)
          case atStart => exact ⟨0, Nat.zero_le _, rfl, by rw [inTo_zero]⟩
          case round =>
            obtain ⟨q, hq, rfl, rfl⟩ := hrel
            by_cases hlq : q < L.length
            · obtain ⟨m, hm⟩ : ∃ m, L[q]? = some m := ⟨L[q], List.getElem?_eq_getElem hlq⟩
              obtain ⟨gl, capl', e3, hgl, hcl, hcm⟩ := own_at HQ.out.lives (show 0 < L.length by omega)
              simp only [Value.slice.injEq, true_and] at e3
              obtain ⟨rfl, rfl⟩ := e3
              have d3 : wr.cell? ⟨gl, q, none⟩ = some (.int .i64 (m : Int)) := (HQ.out.lives.cellAt q (by omega)).trans (by simp [hm, lc])
              have hsu := inTo_succ L q j m hm
              have HSU := Lib.hid hsu
              clear hsu hm
              cases hb : inTo L q j with
              | true =>
                rw [hb] at HSU
                have hs' := HSU.out
                simp only [Bool.true_or] at hs'
                have HS' := Lib.hid hs'
                clear hs' hb
                go_wp2_with fail
                go_round
                case rel => exact ⟨q + 1, by omega, by go_num, by rw [HS'.out]⟩
                case measure => simp only [intOf]; omega
              | false =>
                rw [hb] at HSU
                have hs' := HSU.out
                simp only [Bool.false_or] at hs'
                have HS' := Lib.hid hs'
                clear hs' hb
                by_cases hmj : m = j
                · have k1 : ((m : Int) == (j : Int)) = true := beq_iff_eq.2 (by omega)
                  have k2 : decide (m = j) = true := decide_eq_true hmj
                  rw [k2] at HS'
                  clear hmj k2
                  go_wp2_with fail
                  go_round
                  case rel => exact ⟨q + 1, by omega, by go_num, by rw [HS'.out]⟩
                  case measure => simp only [intOf]; omega
                · have k1 : ((m : Int) == (j : Int)) = false := beq_eq_false_iff_ne.2 (by omega)
                  have k2 : decide (m = j) = false := decide_eq_false hmj
                  rw [k2] at HS'
                  clear hmj k2
                  go_wp2_with fail
                  go_round
                  case rel => exact ⟨q + 1, by omega, by go_num, by rw [HS'.out]⟩
                  case measure => simp only [intOf]; omega
            · have hqe : q = L.length := by omega
              subst hqe
              by_cases hjL : j ∈ L
              · have hin := inTo_yes hjL
                rw [hin]
                obtain ⟨i', s', hRm, hs', ha', hth⟩ := HOI.out.lv j hjL
                have hre := HR.out.symm.trans hRm
                simp only [Option.some.injEq, Prod.mk.injEq] at hre
                obtain ⟨rfl, rfl⟩ := hre
                have HS := Lib.hid hs'
                have HTH := Lib.hid hth
                clear hs' hth hRm hin hjL
                have k1 : ((j : Int) != (j : Int)) = false := by simp
                go_wp2_with fail
                refine (at_yes _ _ _ _ sl fr live vs vf (HQ.out.keep (balloc (Below.refl _ _) _)).rep i' s' HS.out ha' s'.gen rfl).mono ?_
                rintro e w7 ⟨rfl, hb7⟩
                rw [HTH.out]
                go_wp2_with fail
                go_roundw
                case rel => exact ⟨j + 1, by omega, by go_num, (balloc HB.out _).trans (hb7.mono (by simp; omega))⟩
                case measure => simp only [intOf]; omega
              · have hin := inTo_no hjL
                rw [hin]
                have hnh := HOI.out.dd j _ HR.out hjL
                simp only at hnh
                have HNH := Lib.hid hnh
                clear hnh hin hjL
                go_wp2_with fail
                refine (at_no _ _ _ _ sl fr live vs vf (HQ.out.keep (balloc (Below.refl _ _) _)).rep ra rb HNH.out).mono ?_
                rintro e w7 ⟨rfl, hb7⟩
                have e0 := hb7.cell (p := ⟨wr.heap.size, 0, none⟩) (by simp)
                have e1 := hb7.cell (p := ⟨wr.heap.size, 1, none⟩) (by simp)
                simp at e0 e1
                have hs7 : wr.heap.size < w7.heap.size := by have := hb7.size; simp at this; omega
                have HB7 := Lib.hid hb7
                clear hb7
                go_wp2_with fail
                refine (give_no _ _ _ _ sl fr live vs vf ((HQ.out.keep (balloc (Below.refl _ _) _)).keep HB7.out).rep ra rb HNH.out).mono ?_
                rintro e w8 ⟨rfl, hb8⟩
                go_wp2_with fail
                go_roundw
                case rel => exact ⟨j + 1, by omega, by go_num, ((balloc HB.out _).trans (HB7.out.mono (by simp; omega))).trans (hb8.mono (by omega))⟩
                case measure => simp only [intOf]; omega
        · have hje : j = R.length := by omega
          subst hje
          go_wp2_with fail
          refine (awake_true _).mono ?_
          rintro e w7 ⟨rfl, hb7⟩
          go_wp2_with fail
          go_ret
          exact ⟨rfl, HQ.out.bel.trans (hb7.mono HQ.out.bel.size)⟩

set_option maxHeartbeats 2000000 in
set_option maxRecDepth 100000 in
theorem once_bad (s g : Int) (sv : Value) (w : World) (hg : goodB s g = false) :
    Calls Try.prog 4 #[.int .i64 s, .int .i64 g, sv] w fun e w' => e = .returned (.bool true) ∧ Below w.heap.size w w' := by
  go_enter Try.func4, Try.ntmps4
  go_wp2_with fail
  refine (new_bad s g w hg).mono ?_
  rintro e w1 ⟨rfl, rfl⟩
  go_wp2_with fail
  refine (good_any s g _).mono ?_
  rintro e w3 ⟨rfl, rfl⟩
  rw [hg]
  clear hg
  go_wp2_with fail
  refine (awake_true _).mono ?_
  rintro e w7 ⟨rfl, hb7⟩
  go_wp2_with fail
  go_ret
  exact ⟨rfl, hb7⟩

theorem once_law (s g : Int) (sv : Value) (n : Nat) (w : World) (hsc : Script w sv n) :
    Calls Try.prog 4 #[.int .i64 s, .int .i64 g, sv] w fun e w' => e = .returned (.bool true) ∧ Below w.heap.size w w' := by
  by_cases hg : goodB s g = true
  · exact once_good s g sv n w hsc hg
  · exact once_bad s g sv w (by simpa using hg)
end Go.Proofs.Ytppoakomeaamhaa
