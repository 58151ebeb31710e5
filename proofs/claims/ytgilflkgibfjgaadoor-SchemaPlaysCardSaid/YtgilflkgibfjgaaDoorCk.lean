/- osierref08.Place, walked. A region that draws its order: operations that are not wanted, or that yield in whatever world, taken first, many in one step: no program in sight. osierref08.Fits, walked (draft: not built). osierref10.Check, walked. -/
import Derived.Test.YtgilflkgibfjgaaDoorCi
import Derived.Test.YtgilflkgibfjgaaDoorLe
import Derived.Test.YtgilflkgibfjgaaDoorLa
import Derived.Deep.RegionHeld3
import Derived.Deep.RegionWith
import Derived.Deep.RegionLaw
namespace Go.Proofs.YtgilflkgibfjgaaDoor
open Go.RowKit
set_option linter.unusedVariables false

set_option maxHeartbeats 4000000 in
set_option maxRecDepth 100000 in
theorem refPlace_any (w : World) (v : Value) (d : List Rln) (x : ByteArray) (h : RelsAt w v d) :
    Calls Tryd.prog 45 #[v, .string x] w fun e w' => e = .returned (.int .i64 (plI d x.data.toList)) ∧ Below w.heap.size w w' := by
  obtain ⟨ad, cap, rfl, hnc, hcm⟩ := h.form
  have hln := h.len
  unfold maxLen at hcm
  have HD := Lib.hid h
  obtain ⟨RES, hRES⟩ : ∃ RES, RES = plI d x.data.toList := ⟨_, rfl⟩
  rw [← hRES]
  have HQ := Lib.hid hRES
  clear h hRES
  generalize hN : d.length = n at *
  have HN := Lib.hid hN
  clear hN
  obtain ⟨xs⟩ := x
  obtain ⟨xs⟩ := xs
  go_enter Tryd.func45, Tryd.ntmps45
  go_wp2_with fail
  go_loopw [5] (fun i wr => ∃ k : Nat, k ≤ n ∧ i = .int .i64 k ∧ Hid (∀ y ∈ (d.map (·.name)).take k, y ≠ xs) ∧ Hid (Below w.heap.size w wr)) (fun i _ => n - (intOf i).toNat)
  case atStart => exact ⟨0, Nat.zero_le _, rfl, Lib.hid (by simp), Lib.hid (Below.refl _ _)⟩
  case round =>
    obtain ⟨k, hk, rfl, HP, BW⟩ := hrel
    by_cases hlt : k < n
    · obtain ⟨r, hr⟩ : ∃ r, d[k]? = some r := ⟨d[k]'(by rw [HN.out]; exact hlt), List.getElem?_eq_getElem (by rw [HN.out]; exact hlt)⟩
      obtain ⟨db, d_o, dcap, cv, hdv, _, _, hdl, k0, _, _, _⟩ := (HD.out.keep BW.out).get hr
      rw [HN.out] at hdv
      simp only [Value.slice.injEq, true_and] at hdv
      obtain ⟨rfl, rfl⟩ := hdv
      have hdk : decide ((k : Int) < 0) = false := by simp
      have hdn : decide ((n : Int) ≤ (k : Int)) = false := by simp; omega
      have hnk : (d.map (·.name))[k]? = some r.name := by simp [hr]
      have HNK := Lib.hid hnk
      clear hr hnk
      by_cases he : r.name = xs
      · have hb : (r.name == xs) = true := by simp [he]
        have hq := HQ.out
        rw [show plI d (⟨⟨xs⟩⟩ : ByteArray).data.toList = (k : Int) from idxI_hit (by rw [HNK.out, he]) (fun hm => HP.out _ hm rfl)] at hq
        subst hq
        clear he
        go_wp2_with fail
        go_ret
        exact ⟨rfl, BW.out⟩
      · have hb : (r.name == xs) = false := by simpa using he
        have HP2 : Hid (∀ y ∈ (d.map (·.name)).take (k + 1), y ≠ xs) := Lib.hid (by
          intro y hy
          rw [List.take_add_one, HNK.out] at hy
          simp only [Option.toList_some, List.mem_append, List.mem_singleton] at hy
          rcases hy with hy | rfl
          · exact HP.out y hy
          · exact he)
        clear he
        go_wp2_with fail
        go_roundw
        case rel => exact ⟨k + 1, by omega, by go_num, HP2, BW⟩
        case measure => simp [intOf]; omega
    · obtain rfl : k = n := by omega
      have hq := HQ.out
      have hp := HP.out
      rw [List.take_of_length_le (by rw [List.length_map, HN.out]; exact Nat.le_refl _)] at hp
      rw [show plI d (⟨⟨xs⟩⟩ : ByteArray).data.toList = -1 from idxI_miss (fun hm => hp _ hm rfl)] at hq
      subst hq
      clear hp
      go_wp2_with fail
      go_ret
      exact ⟨rfl, BW.out⟩
end Go.Proofs.YtgilflkgibfjgaaDoor
namespace Go.Proofs.YtgilflkgibfjgaaDoor
open Go.RowKit
set_option linter.unusedVariables false
section
variable {P : Program} {md : Region.Mode} {ops : Array Oper} {Q : Exit → Act → World → Prop}

/-- May these be taken, one behind the other, as unwanted? (its number, its slot) -/
def okSkips (md : Region.Mode) (ops : Array Oper) : Array Bool → Array Value → List (Nat × Nat) → Bool
  | _, _, [] => true
  | listed, tmps, (i, d) :: is => (match ops[i]? with
    | some oi => oi.dst == some d && Region.free md ops listed i && (Region.ready md ops listed).contains i && (Region.wanted oi (yielded ops tmps) == false)
    | none => false) && okSkips md ops (listed.setIfInBounds i true) (tmps.setIfInBounds d undef) is
def setAll : Array Bool → List (Nat × Nat) → Array Bool
  | l, [] => l
  | l, (i, _) :: is => setAll (l.setIfInBounds i true) is
def putAll : Array Value → List (Nat × Nat) → Array Value
  | t, [] => t
  | t, (_, d) :: is => putAll (t.setIfInBounds d undef) is
theorem wpAny_skips_go (hs : Region.noSelect ops = true) (hQ : ∀ c (a : Act) (t : Array Value) w, Q (.panic c) { a with tmps := t } w → Q (.panic c) a w) : ∀ (is : List (Nat × Nat)) (fuel : Nat) (listed : Array Bool) (a : Act) (w : World),
    okSkips md ops listed a.tmps is = true → wpAny P md ops Q fuel (setAll listed is) { a with tmps := putAll a.tmps is } w → wpAny P md ops Q (fuel + is.length) listed a w
  | [], fuel, listed, a, w, _, h => h
  | (i, d) :: is, fuel, listed, a, w, hok, h => by
    unfold okSkips at hok
    rw [Bool.and_eq_true] at hok
    obtain ⟨h1, h2⟩ := hok
    cases hi : ops[i]? with
    | none => rw [hi] at h1; simp at h1
    | some oi =>
      rw [hi] at h1
      simp only [Bool.and_eq_true, beq_iff_eq] at h1
      obtain ⟨⟨⟨hd, hf⟩, hr⟩, hw⟩ := h1
      have hp : a.put oi.dst undef = { a with tmps := a.tmps.setIfInBounds d undef } := by rw [hd]; rfl
      show wpAny P md ops Q ((fuel + is.length) + 1) listed a w
      refine wpAny_take (oi := oi) (v := undef) hi hs hf hr (fun c a' w' hh => ?_) (.inr ⟨hw, rfl⟩) ?_
      · rw [hd] at hh
        exact hQ c a' _ w' hh
      · rw [hp]
        exact wpAny_skips_go hs hQ is fuel _ _ w h2 h
theorem wpAny_skips (is : List (Nat × Nat)) (fuel : Nat) {F : Nat} {listed : Array Bool} {a : Act} {w : World} (hF : F = fuel + is.length) (hs : Region.noSelect ops = true)
    (hok : okSkips md ops listed a.tmps is = true) (hQ : ∀ c (a : Act) (t : Array Value) w, Q (.panic c) { a with tmps := t } w → Q (.panic c) a w)
    (h : wpAny P md ops Q fuel (setAll listed is) { a with tmps := putAll a.tmps is } w) : wpAny P md ops Q F listed a w := by
  subst hF
  exact wpAny_skips_go hs hQ is fuel listed a w hok h
/-- One that yields in whatever world, its slot named. -/
theorem wpAny_takeAt (i d : Nat) {oi : Oper} {v : Value} {fuel : Nat} {listed : Array Bool} {a : Act} {w : World} (hi : ops[i]? = some oi) (hd : oi.dst = some d)
    (hs : Region.noSelect ops = true) (hf : Region.free md ops listed i = true) (hr : (Region.ready md ops listed).contains i = true)
    (hQ : ∀ c (a : Act) (t : Array Value) w, Q (.panic c) { a with tmps := t } w → Q (.panic c) a w) (hw : Region.wanted oi (yielded ops a.tmps) = true) (hy : ∀ w, (execOp a.eval oi).run P w = .ok (.value v) w)
    (h : wpAny P md ops Q fuel (listed.setIfInBounds i true) { a with tmps := a.tmps.setIfInBounds d v } w) : wpAny P md ops Q (fuel + 1) listed a w := by
  refine wpAny_take (oi := oi) (v := v) hi hs hf hr (fun c a' w' hh => ?_) (.inl ⟨hw, hy⟩) ?_
  · rw [hd] at hh
    exact hQ c a' _ w' hh
  · rw [hd]
    exact h
end
end Go.Proofs.YtgilflkgibfjgaaDoor
namespace Go.Proofs.YtgilflkgibfjgaaDoor
open Go.RowKit
set_option linter.unusedVariables false

set_option maxHeartbeats 8000000 in
set_option maxRecDepth 100000 in
theorem refFits_any (w : World) (dv rv : Value) (d : List Rln) (x : ByteArray) (row : List Vl) (h : RelsAt w dv d) (hrow : RowAt w rv 3 (row.map Vl.cells)) :
    Calls Tryd.prog 46 #[dv, .string x, rv] w fun e w' => e = .returned (.int .i64 (fitD d x.data.toList row)) ∧ Below w.heap.size w w' := by
  have hnot : ∀ (x : Bool) (w : World), (Op.unary .not (.bool x)).run Tryd.prog w = .ok (.bool (!x)) w := fun _ _ => rfl
  have hpl := refPlace_any w dv d x h
  have hln := hrow.len
  rw [List.length_map] at hln
  obtain ⟨ra, rc, rfl, hrn, hrm⟩ := hrow.form
  obtain ⟨da, dc, rfl, hdn, hdm⟩ := h.form
  unfold maxLen at hrm hdm
  rw [List.length_map] at *
  have HPL := Lib.hid hpl
  have HROW := Lib.hid hrow
  have HD := Lib.hid h
  obtain ⟨RES, hRES⟩ : ∃ RES, RES = fitD d x.data.toList row := ⟨_, rfl⟩
  rw [← hRES]
  have HRES := Lib.hid hRES
  clear hrow h hRES hpl
  generalize hN : row.length = n at *
  generalize hM : d.length = dn at *
  have HN := Lib.hid hN
  have HM := Lib.hid hM
  clear hN hM
  rcases plI_range d x.data.toList with hp | ⟨k, r, hp, hr, hnm⟩
  · have hq := HRES.out
    rw [fitD_none hp] at hq
    subst hq
    rw [hp] at HPL
    clear hp
    go_enter Tryd.func46, Tryd.ntmps46
    go_wp2_with fail
    refine HPL.out.mono ?_
    rintro e w1 ⟨rfl, hb1⟩
    have HB1 := Lib.hid hb1
    clear hb1
    go_wp2_with fail
    go_ret
    exact ⟨rfl, HB1.out⟩
  · have hq := HRES.out
    rw [fitD_some hp hr] at hq
    rw [hp] at HPL
    have HQ := Lib.hid hq
    have hkl := (List.getElem?_eq_some_iff.1 hr).1
    rw [HM.out] at hkl
    have hk0 : ¬ ((k : Int) < 0) := by omega
    have hdk2 : decide ((k : Int) < 0) = false := by simp
    have hdn2 : decide ((dn : Int) ≤ (k : Int)) = false := by simp; omega
    have HRR := Lib.hid hr
    clear hp hr hnm hq HRES
    go_enter Tryd.func46, Tryd.ntmps46
    go_wp2_with fail
    refine HPL.out.mono ?_
    rintro e w1 ⟨rfl, hb1⟩
    obtain ⟨db, d_o, dcap, cv, hdv, _, _, hdl, _, k1, hcols, _⟩ := (HD.out.keep hb1).get HRR.out
    rw [HM.out] at hdv
    simp only [Value.slice.injEq, true_and] at hdv
    obtain ⟨rfl, rfl⟩ := hdv
    obtain ⟨ca, cc, rfl, _, _⟩ := hcols.form
    have HC1 := Lib.hid hcols
    have HR1 := Lib.hid (HROW.out.keep hb1)
    have HB1 := Lib.hid hb1
    clear hb1 hcols
    generalize hK : r.cols.length = cn at *
    have HK := Lib.hid hK
    clear hK
    by_cases hnc : cn = n
    · subst hnc
      have hnn : ((cn : Int) != (cn : Int)) = false := by simp
      go_wp2_with fail
      go_loopw [9] (fun i wr => ∃ j : Nat, j ≤ cn ∧ i = .int .i64 j ∧ Hid (∀ (q : Nat) (u : Vl) (c : Col), q < j → row[q]? = some u → r.cols[q]? = some c → okF u c = true) ∧ Hid (Below w1.heap.size w1 wr)) (fun i _ => cn - (intOf i).toNat)
      case atStart => exact ⟨0, Nat.zero_le _, rfl, Lib.hid (fun q _ _ hq => by omega), Lib.hid (Below.refl _ _)⟩
      case round =>
        obtain ⟨j, hj, rfl, HP, BW⟩ := hrel
        obtain ⟨wo, rfl⟩ : ∃ wo : World, wo = wr := ⟨_, rfl⟩
        by_cases hlt : j < cn
        · obtain ⟨uu, hu⟩ : ∃ uu, row[j]? = some uu := ⟨row[j]'(by rw [HN.out]; exact hlt), List.getElem?_eq_getElem (by rw [HN.out]; exact hlt)⟩
          obtain ⟨c, hc⟩ : ∃ c, r.cols[j]? = some c := ⟨r.cols[j]'(by rw [HK.out]; exact hlt), List.getElem?_eq_getElem (by rw [HK.out]; exact hlt)⟩
          obtain ⟨vb, vo, vcap, hv, _, _, hvl, hce⟩ := (HR1.out.keep BW.out).get (i := j) (x := uu.cells) (by simp [hu])
          simp only [List.length_map, HN.out, Value.slice.injEq, true_and] at hv
          obtain ⟨rfl, rfl⟩ := hv
          have q0 := hce 0 _ rfl
          have q1 := hce 1 _ rfl
          have q2 := hce 2 _ rfl
          simp only [Nat.add_zero] at q0
          obtain ⟨cb, co, ccap, hcv, _, _, hcl, k0, k1'⟩ := (ColsAt.keep HC1.out BW.out).get hc
          simp only [HK.out, Value.slice.injEq, true_and] at hcv
          obtain ⟨rfl, rfl⟩ := hcv
          have hvd := fun W => refValid_any uu.k uu.n ⟨uu.t.toArray⟩ W
          obtain ⟨vbl, hvb⟩ : ∃ vbl, validB uu.k uu.n uu.t = vbl := ⟨_, rfl⟩
          rw [show validB uu.k uu.n (⟨uu.t.toArray⟩ : ByteArray).data.toList = vbl from hvb] at hvd
          have HVD := Lib.hid hvd
          have HVB := Lib.hid hvb
          have HU := Lib.hid hu
          have HC := Lib.hid hc
          have hdk : decide ((j : Int) < 0) = false := by simp
          have hdn : decide ((cn : Int) ≤ (j : Int)) = false := by simp; omega
          have hbW := Below.refl wo.heap.size wo
          have HKV : Hid (∀ W, (W.cell? ⟨vb, vo + j * 3, none⟩ = some (.int .i64 uu.k) ∧ W.cell? ⟨vb, vo + j * 3 + 1, none⟩ = some (.int .i64 uu.n) ∧ W.cell? ⟨vb, vo + j * 3 + 2, none⟩ = some (.string ⟨uu.t.toArray⟩) ∧ W.cell? ⟨cb, co + j * 2 + 1, none⟩ = some (.int .i64 c.k) ∧ Below wo.heap.size wo W) → Calls Tryd.prog 72 #[.agg #[.int .i64 uu.k, .int .i64 uu.n, .string ⟨uu.t.toArray⟩]] W fun e w' => e = .returned (.bool vbl) ∧ w'.cell? ⟨vb, vo + j * 3, none⟩ = some (.int .i64 uu.k) ∧ w'.cell? ⟨vb, vo + j * 3 + 1, none⟩ = some (.int .i64 uu.n) ∧ w'.cell? ⟨vb, vo + j * 3 + 2, none⟩ = some (.string ⟨uu.t.toArray⟩) ∧ w'.cell? ⟨cb, co + j * 2 + 1, none⟩ = some (.int .i64 c.k) ∧ Below wo.heap.size wo w') :=
            Lib.hid fun W h => (HVD.out W).mono fun e w' hh => by
              obtain ⟨a0, a1, a2, a3, a4⟩ := h
              have hz := a4.size
              exact ⟨hh.1, (hh.2.cell (p := ⟨vb, vo + j * 3, none⟩) (by simp only; omega)).trans a0, (hh.2.cell (p := ⟨vb, vo + j * 3 + 1, none⟩) (by simp only; omega)).trans a1, (hh.2.cell (p := ⟨vb, vo + j * 3 + 2, none⟩) (by simp only; omega)).trans a2, (hh.2.cell (p := ⟨cb, co + j * 2 + 1, none⟩) (by simp only; omega)).trans a3, a4.trans (hh.2.mono hz)⟩
          have HBK := Lib.hid (HB1.out.trans (BW.out.mono HB1.out.size))
          clear hce hvd hvb hu hc k0
          cases vbl with
          | false =>
            have hno : fitsB row r.cols = false := fits_no HU.out HC.out (by unfold okF; rw [HVB.out]; rfl)
            have hq := HQ.out
            rw [hno, if_neg (by decide)] at hq
            subst hq
            clear hno
            go_wp2_with fail
            refine wp_region_any (by kernel_rfl) ?_
            try (change wpAny _ _ _ _ _ _ _ (World.drew _))
            refine wpAny_take (i := 0) (v := ?_) rfl (by kernel_rfl) (by kernel_rfl) (by kernel_rfl) (fun _ _ _ h => h) (Or.inl ⟨by rfl, ?_⟩) ?_
            rotate_left
            · intro w
              go_simp
              try with_reducible rfl
            refine wpAny_take (i := 1) (v := ?_) rfl (by kernel_rfl) (by kernel_rfl) (by kernel_rfl) (fun _ _ _ h => h) (Or.inl ⟨by rfl, ?_⟩) ?_
            rotate_left
            · intro w
              go_simp
              try with_reducible rfl
            refine wpAny_take (i := 2) (v := ?_) rfl (by kernel_rfl) (by kernel_rfl) (by kernel_rfl) (fun _ _ _ h => h) (Or.inl ⟨by rfl, ?_⟩) ?_
            rotate_left
            · intro w
              go_simp
              try with_reducible rfl
            refine wpAny_ready (rs := [3]) (by kernel_rfl) (by simp) ?_
            refine AllReady.cons rfl (fun K hK => ?_) AllReady.nil
            go_simp
            refine hK _ _ ?_
            clear hK K
            refine wpAny_ready (rs := [4]) (by kernel_rfl) (by simp) ?_
            refine AllReady.cons rfl (fun K hK => ?_) AllReady.nil
            go_simp
            refine (HVD.out _).mono ?_
            rintro e w8 ⟨rfl, hb8⟩
            have HB8 : Hid (Below wo.heap.size wo w8) := Lib.hid ((bdrew (Below.refl wo.heap.size wo)).trans hb8)
            clear hb8
            refine hK _ _ ?_
            clear hK K
            refine wpAny_take (i := 5) (v := ?_) rfl (by kernel_rfl) (by kernel_rfl) (by kernel_rfl) (fun _ _ _ h => h) (Or.inl ⟨by rfl, ?_⟩) ?_
            rotate_left
            · intro w
              go_simp
              try with_reducible rfl
            refine wpAny_take (i := 6) (v := ?_) rfl (by kernel_rfl) (by kernel_rfl) (by kernel_rfl) (fun _ _ _ h => h) (Or.inl ⟨by rfl, ?_⟩) ?_
            rotate_left
            · intro w
              go_simp
              try with_reducible rfl
            refine wpAny_skips [(7, 38), (8, 39), (12, 43), (13, 44), (9, 40), (10, 41), (14, 45), (15, 46), (11, 42), (16, 47), (17, 48)] 1 rfl (by kernel_rfl) (by kernel_rfl) (fun _ _ _ _ h => h) ?_
            simp only [Act.put, putAll, List.getElem_toArray, List.getElem_cons_succ, List.getElem_cons_zero, List.setIfInBounds_toArray, List.set_cons_succ, List.set_cons_zero]
            refine wpAny_takeAt 18 49 (v := ?_) rfl (by kernel_rfl) (by kernel_rfl) (by kernel_rfl) (by kernel_rfl) (fun _ _ _ _ h => h) (by rfl) ?_ ?_
            rotate_left
            · intro w
              go_simp
              try with_reducible rfl
            refine wpAny_done (by kernel_rfl) ?_ _
            simp only [List.setIfInBounds_toArray, List.set_cons_succ, List.set_cons_zero]
            all_goals
              go_wp2_with fail
              go_ret
              exact ⟨rfl, HBK.out.trans (Below.mono HB8.out HBK.out.size)⟩
          | true =>
            by_cases hkk : uu.k = c.k
            · have hd : (uu.k != c.k) = false := by simp [hkk]
              have hok : okF uu c = true := by unfold okF; rw [HVB.out, decide_eq_true hkk]; rfl
              have HP2 : Hid (∀ (q : Nat) (u : Vl) (c : Col), q < j + 1 → row[q]? = some u → r.cols[q]? = some c → okF u c = true) := Lib.hid (fun q u' c' hq h1 h2 => by
                rcases Nat.lt_or_eq_of_le (Nat.le_of_lt_succ hq) with h | rfl
                · exact HP.out q u' c' h h1 h2
                · rw [HU.out] at h1
                  rw [HC.out] at h2
                  simp only [Option.some.injEq] at h1 h2
                  subst h1 h2
                  exact hok)
              clear hkk hok
              go_wp2_with fail
              go_region_held3 (fun w' => w'.cell? ⟨vb, vo + j * 3, none⟩ = some (.int .i64 uu.k) ∧ w'.cell? ⟨vb, vo + j * 3 + 1, none⟩ = some (.int .i64 uu.n) ∧ w'.cell? ⟨vb, vo + j * 3 + 2, none⟩ = some (.string ⟨uu.t.toArray⟩) ∧ w'.cell? ⟨cb, co + j * 2 + 1, none⟩ = some (.int .i64 c.k) ∧ Below wo.heap.size wo w')
                (first | exact hK | (go_split_ands; refine ⟨?_, ?_, ?_, ?_, ?_⟩ <;> first | exact bdrew (by assumption) | assumption | go_keep))
                (first | (go_at_call 72; go_split_ands; refine (HKV.out _ ⟨by assumption, by assumption, by assumption, by assumption, by assumption⟩).mono ?_; rintro e w' ⟨rfl, hK⟩))
              all_goals go_split_ands
              all_goals
                go_wp2_with fail
                go_roundw
                case rel => exact ⟨j + 1, by omega, by go_num, HP2, Lib.hid (BW.out.trans (Below.mono (by assumption) BW.out.size))⟩
                case measure => simp [intOf]; omega
            · have hd : (uu.k != c.k) = true := by simpa using hkk
              have hno : fitsB row r.cols = false := fits_no HU.out HC.out (by unfold okF; rw [decide_eq_false hkk, Bool.and_false])
              have hq := HQ.out
              rw [hno, if_neg (by decide)] at hq
              subst hq
              clear hno hkk
              go_wp2_with fail
              go_region_held3 (fun w' => w'.cell? ⟨vb, vo + j * 3, none⟩ = some (.int .i64 uu.k) ∧ w'.cell? ⟨vb, vo + j * 3 + 1, none⟩ = some (.int .i64 uu.n) ∧ w'.cell? ⟨vb, vo + j * 3 + 2, none⟩ = some (.string ⟨uu.t.toArray⟩) ∧ w'.cell? ⟨cb, co + j * 2 + 1, none⟩ = some (.int .i64 c.k) ∧ Below wo.heap.size wo w')
                (first | exact hK | (go_split_ands; refine ⟨?_, ?_, ?_, ?_, ?_⟩ <;> first | exact bdrew (by assumption) | assumption | go_keep))
                (first | (go_at_call 72; go_split_ands; refine (HKV.out _ ⟨by assumption, by assumption, by assumption, by assumption, by assumption⟩).mono ?_; rintro e w' ⟨rfl, hK⟩))
              all_goals go_split_ands
              all_goals
                go_wp2_with fail
                go_ret
                exact ⟨rfl, HBK.out.trans (Below.mono (by assumption) HBK.out.size)⟩
        · obtain rfl : j = cn := by omega
          have hyes : fitsB row r.cols = true := fits_yes (by rw [HN.out, HK.out]) (fun q u c h1 h2 => HP.out q u c (by rw [← HN.out]; exact (List.getElem?_eq_some_iff.1 h1).1) h1 h2)
          have hq := HQ.out
          rw [hyes, if_pos rfl] at hq
          subst hq
          clear hyes
          go_wp2_with fail
          go_ret
          exact ⟨rfl, HB1.out.trans (BW.out.mono HB1.out.size)⟩
    · have hd : ((cn : Int) != (n : Int)) = true := by simpa using fun e => hnc (by omega)
      have hq := HQ.out
      rw [fits_len (by rw [HN.out, HK.out]; exact fun e => hnc e.symm), if_neg (by decide)] at hq
      subst hq
      clear hnc
      go_wp2_with fail
      go_ret
      exact ⟨rfl, HB1.out⟩
end Go.Proofs.YtgilflkgibfjgaaDoor
namespace Go.Proofs.YtgilflkgibfjgaaDoor
open Go.RowKit
set_option linter.unusedVariables false

set_option maxHeartbeats 8000000 in
set_option maxRecDepth 100000 in
theorem refChkB_any (w : World) (bv dv : Value) (b : List Chg) (d : List Rln) (hb : ChgsAt w bv b) (hd : RelsAt w dv d) :
    Calls Tryd.prog 41 #[bv, dv] w fun e w' => e = .returned (.tuple #[.int .i64 (chkBt b d).1, .int .i64 (chkBt b d).2]) ∧ Below w.heap.size w w' := by
  obtain ⟨ba, bc, rfl, hbn, hbm⟩ := hb.form
  obtain ⟨da, dc, rfl, hdn', hdm⟩ := hd.form
  have hlb := hb.len
  unfold maxLen at hbm hdm
  have HB := Lib.hid hb
  have HD := Lib.hid hd
  obtain ⟨RES, hRES⟩ : ∃ RES, RES = chkBt b d := ⟨_, rfl⟩
  rw [← hRES]
  have HQ := Lib.hid hRES
  clear hb hd hRES
  generalize hN : b.length = n at *
  have HN := Lib.hid hN
  clear hN
  generalize d.length = dn at *
  by_cases hmany : 256 < n
  · have hdd : (256 : Int) < (n : Int) := by omega
    have hq : RES = (0, 100) := by
      rw [HQ.out]
      unfold chkBt
      rw [if_pos (by rw [HN.out]; exact hmany)]
    subst hq
    go_enter Tryd.func41, Tryd.ntmps41
    go_wp2_with fail
    go_ret2
    exact ⟨rfl, Below.refl _ _⟩
  · have hdd : ¬ ((256 : Int) < (n : Int)) := by omega
    have hq : RES = cbG d b 0 := by
      rw [HQ.out]
      unfold chkBt
      rw [if_neg (by rw [HN.out]; exact hmany)]
    have HQ2 := Lib.hid hq
    clear hq hmany
    go_enter Tryd.func41, Tryd.ntmps41
    go_wp2_with fail
    go_loopw [6] (fun i wr => ∃ j : Nat, j ≤ n ∧ i = .int .i64 j ∧ Hid (RES = cbG d (b.drop j) j) ∧ Hid (Below w.heap.size w wr)) (fun i _ => n - (intOf i).toNat)
    case atStart => exact ⟨0, Nat.zero_le _, rfl, Lib.hid (by rw [HQ2.out]; rfl), Lib.hid (Below.refl _ _)⟩
    case round =>
      obtain ⟨j, hj, rfl, HP, BW⟩ := hrel
      obtain ⟨wo, rfl⟩ : ∃ wo : World, wo = wr := ⟨_, rfl⟩
      by_cases hlt : j < n
      · obtain ⟨c, hc⟩ : ∃ c, b[j]? = some c := ⟨b[j]'(by rw [HN.out]; exact hlt), List.getElem?_eq_getElem (by rw [HN.out]; exact hlt)⟩
        obtain ⟨b1, o1, c1, rv, hv1, _, _, hl1, q0, q1, q2, hr1, _⟩ := (HB.out.keep BW.out).get hc
        rw [HN.out] at hv1
        simp only [Value.slice.injEq, true_and] at hv1
        obtain ⟨rfl, rfl⟩ := hv1
        obtain ⟨ra, rc, rfl, _, _⟩ := hr1.form
        have hdk : decide ((j : Int) < 0) = false := by simp
        have hdn : decide ((n : Int) ≤ (j : Int)) = false := by simp; omega
        have hft := fun W (hW : Below wo.heap.size wo W) => refFits_any W _ _ d ⟨c.rel.toArray⟩ c.row ((HD.out.keep BW.out).keep hW) (hr1.keep hW)
        have hss : (⟨c.rel.toArray⟩ : ByteArray).data.toList = c.rel := rfl
        rw [hss] at hft
        have HFT := Lib.hid hft
        have HC := Lib.hid hc
        clear hr1 hc hft hss
        generalize (c.row.map Vl.cells).length = rn at *
        by_cases hz : fitD d c.rel c.row = 0
        · have hq := HP.out
          rw [cbG_step HC.out hz] at hq
          have HP2 := Lib.hid hq
          rw [hz] at HFT
          clear hq hz
          go_wp2_with fail
          first
            | go_region_law (go_simp; go_at_call 46; refine (HFT.out _ (bdrew (Below.refl _ _))).mono ?_; rintro e w8 ⟨rfl, hb8⟩; have HB8 := Lib.hid (bt2 (bdrew (Below.refl _ _)) hb8); clear hb8)
            | fail "no way"
          all_goals
            go_wp2_with fail
            go_roundw
            case rel => exact ⟨j + 1, by omega, by go_num, HP2, Lib.hid (BW.out.trans (Below.mono HB8.out BW.out.size))⟩
            case measure => simp [intOf]; omega
        · have hq := HP.out
          rw [cbG_hit HC.out hz] at hq
          have hne : (fitD d c.rel c.row != 0) = true := by simpa using hz
          obtain ⟨F, hF⟩ : ∃ F, fitD d c.rel c.row = F := ⟨_, rfl⟩
          rw [hF] at hq hne HFT
          subst hq
          clear hz hF
          go_wp2_with fail
          first
            | go_region_law (go_simp; go_at_call 46; refine (HFT.out _ (bdrew (Below.refl _ _))).mono ?_; rintro e w8 ⟨rfl, hb8⟩; have HB8 := Lib.hid (bt2 (bdrew (Below.refl _ _)) hb8); clear hb8)
            | fail "no way"
          all_goals
            go_wp2_with fail
            go_ret2
            exact ⟨rfl, BW.out.trans (Below.mono HB8.out BW.out.size)⟩
      · obtain rfl : j = n := by omega
        have hq := HP.out
        rw [List.drop_eq_nil_of_le (by rw [HN.out]; exact Nat.le_refl _)] at hq
        have hq' : RES = (0, 0) := hq
        subst hq'
        go_wp2_with fail
        go_ret2
        exact ⟨rfl, BW.out⟩
end Go.Proofs.YtgilflkgibfjgaaDoor
