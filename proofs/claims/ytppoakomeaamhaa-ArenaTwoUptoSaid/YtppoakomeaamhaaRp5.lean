/- The document's arena, walked: Live. -/
import Derived.Test.YtppoakomeaamhaaRp4
import Derived.Deep.RegionHeld3
namespace Go.Proofs.Ytppoakomeaamhaa
open Go.RowKit
set_option linter.unusedVariables false

/-- An entry put in behind those whose slots aren't greater. -/
def Ins (l : List One) (o : One) (x : List One) : Prop := ∃ l1 l2, l = l1 ++ l2 ∧ x = l1 ++ o :: l2 ∧ (∀ q ∈ l2, o.slot < q.slot) ∧ ∀ q, l1.getLast? = some q → q.slot ≤ o.slot
theorem setMany_append (vs : List Value) : ∀ (us xs : List Value) (o : Nat), setMany xs o (us ++ vs) = setMany (setMany xs o us) (o + us.length) vs := by
  intro us
  induction us with
  | nil => intro xs o; rfl
  | cons u us ih => intro xs o; simp only [List.cons_append, setMany]; rw [ih]; congr 1; simp; omega
theorem setMany_oc {l : List One} {i : Nat} {o : One} (hi : i < l.length) : setMany (l.flatMap oc) (i * 5) (oc o) = (l.set i o).flatMap oc := by
  rw [oc_set l i o hi]
  simp only [oc, setMany]
theorem own_drewN {w : World} {base : Nat} {e : TypeId} {size n : Nat} {v : Value} {xs : List Value} (h : w.ownsRow base e size v n xs) (k : Nat) : (w.drewN k).ownsRow base e size v n xs := h
theorem swap_row {w : World} {base g n cap : Nat} {l0 l2 : List One} {o p : One} (h : w.ownsRow base 72 5 (.slice (some ⟨g, 0, none⟩) n cap) n (((l0 ++ [p]) ++ o :: l2).flatMap oc)) (k : Nat) :
    (((w.drewN k).setCells g (l0.length * 5) (oc o)).setCells g ((l0.length + 1) * 5) (oc p)).ownsRow base 72 5 (.slice (some ⟨g, 0, none⟩) n cap) n ((l0 ++ o :: (p :: l2)).flatMap oc) ∧
      Below base w (((w.drewN k).setCells g (l0.length * 5) (oc o)).setCells g ((l0.length + 1) * 5) (oc p)) := by
  have hg := (h.lt g rfl).1
  refine ⟨?_, (Mod.setCells (F := fun j => j = g) (fun _ => rfl) _ _ _ (Mod.setCells (F := fun j => j = g) (fun _ => rfl) _ _ _ ((Mod.refl _ _).drewN k))).below ?_ (fun j hj => by omega)⟩
  · have h1 := own_setCells (oc p) ((l0.length + 1) * 5) _ _ (own_setCells (oc o) (l0.length * 5) _ _ (own_drewN h k))
    rw [setMany_oc (by simp), setMany_oc (by simp)] at h1
    have e : ((l0 ++ [p] ++ o :: l2).set l0.length o).set (l0.length + 1) p = l0 ++ o :: (p :: l2) := by
      simp
    rwa [e] at h1
  · have := h.lt g rfl
    omega
inductive LiveR (all : List One) : Nat → List One → Prop
  | zero : LiveR all 0 []
  | dead {k : Nat} {l : List One} {o : One} : LiveR all k l → all[k]? = some o → o.alive = false → LiveR all (k + 1) l
  | put {k : Nat} {l x : List One} {o : One} : LiveR all k l → all[k]? = some o → o.alive = true → Ins l o x → LiveR all (k + 1) x

theorem oc_ones (o : One) : ∀ v ∈ oc o, v.oneCell' = true := by
  intro v hv
  simp [oc] at hv
  rcases hv with rfl | rfl | rfl | rfl | rfl <;> rfl

theorem range_one {w : World} {base g n cap i : Nat} {l : List One} {o : One} (h : w.ownsRow base 72 5 (.slice (some ⟨g, 0, none⟩) n cap) n (l.flatMap oc)) (hi : l[i]? = some o) : w.rangeAt g (i * 5) (oc o) ∧ w.there g (i * 5) 5 := by
  have hl := (List.getElem?_eq_some_iff.1 hi).1
  have h1 := h.1
  rw [oc_len] at h1
  have hn : l.length = n := by omega
  obtain ⟨x0, x1, x2, x3, x4⟩ := oc_at l i o hi
  have c : ∀ j, j < 5 → w.cell? ⟨g, i * 5 + j, none⟩ = (l.flatMap oc)[i * 5 + j]? := fun j hj => h.cellAt _ (by omega)
  refine ⟨?_, ?_⟩
  · intro j v hj
    have hjl := (List.getElem?_eq_some_iff.1 hj).1
    simp [oc] at hjl
    rw [c j hjl]
    rcases j with _ | _ | _ | _ | _ | j
    · simp [oc] at hj; subst hj; exact x0
    · simp [oc] at hj; subst hj; exact x1
    · simp [oc] at hj; subst hj; exact x2
    · simp [oc] at hj; subst hj; exact x3
    · simp [oc] at hj; subst hj; exact x4
    · omega
  · intro j hj
    refine ⟨?_, h.frozenAt _⟩
    rw [c j hj, List.getElem?_eq_getElem (by rw [oc_len]; omega)]
    rfl

set_option maxHeartbeats 16000000 in
set_option maxRecDepth 100000 in
theorem live_ref (w : World) (d : Nat) (slots gens clock : Int) (all : List One) (va : Value) (h : DRep w d slots gens all clock va) (hl : all.length ≤ 1000000000000) :
    Calls Try.prog 36 #[.pointer (some ⟨d, 0, none⟩)] w fun e w' => ∃ v' x, e = .returned v' ∧ LiveR all all.length x ∧ w'.ownsRow w.heap.size 72 5 v' x.length (x.flatMap oc) ∧ Below w.heap.size w w' := by
  obtain ⟨a, cap, rfl, hm⟩ := own_len h.all
  have x2 := h.blk.cell 2
  simp at x2
  have hd := h.blk.lt
  obtain ⟨i0, hi0, hz0, hz1, hz2⟩ := info_parts Try.infoOne
  have H := Lib.hid h
  have X2 := Lib.hid x2
  clear h hm x2
  go_enter Try.func36, Try.ntmps36
  go_wp2_with fail
  go_loopw [4, 3] (fun ix ov wr => ∃ (k : Nat) (x : List One), k ≤ all.length ∧ x.length ≤ k ∧ ix = .int .i64 k ∧ Hid (LiveR all k x) ∧ wr.ownsRow w.heap.size 72 5 ov x.length (x.flatMap oc) ∧ Below w.heap.size w wr) (fun ix _ _ => all.length - (intOf ix).toNat)
  case atStart => exact ⟨0, [], Nat.zero_le _, Nat.zero_le _, rfl, Lib.hid .zero, World.ownsRow_nil _ _ _ _, Below.refl _ _⟩
  case round =>
    obtain ⟨wo, rfl⟩ : ∃ wo : World, wo = wr := ⟨_, rfl⟩
    obtain ⟨k, x, hk, hxk, rfl, HL, hown, hb⟩ := hrel
    have x2 := (hb.cell (p := ⟨d, 2, none⟩) hd).trans X2.out
    have hsz := hb.size
    have HR := Lib.hid (H.out.keep hb)
    have HB := Lib.hid hb
    have HO := Lib.hid hown
    clear hb hown
    by_cases hlt : k < all.length
    · obtain ⟨g, o, rfl, hg, hc, ho⟩ := HR.out.entry hlt
      obtain ⟨d0, d1, d2, d3, d4⟩ := HR.out.at ho
      have HOO := Lib.hid ho
      clear ho
      cases ha : o.alive with
      | false =>
        rw [ha] at d3
        have HA := Lib.hid ha
        clear ha d0 d1 d2 d4
        go_wp2_with fail
        go_roundw
        case rel => exact ⟨k + 1, x, by omega, by omega, by go_num, Lib.hid (.dead HL.out HOO.out HA.out), HO.out, HB.out⟩
        case measure => simp only [intOf]; omega
      | true =>
        rw [ha] at d3
        have HA := Lib.hid ha
        clear ha
        obtain ⟨ax, capx, rfl, hlx⟩ := own_len HO.out
        go_wp2_with (at_builtin; refine wpList_append_lies _ rfl (.tmp 24) (.tmp 32) 50 rfl w.heap.size 72 i0 (.agg #[.int .i64 0, .int .i64 0, .int .i64 0, .bool false, .int .i64 0]) 5 40 Try.underlying50 hi0 hz0 hz1 hz2 rfl (by decide) (.slice ax x.length capx) x.length _ rfl (HO.out.alloc _) ⟨wo.heap.size, 0, none⟩ 1 1 [.int .i64 o.slot, .int .i64 o.gen, .int .i64 o.thing, .bool true, .int .i64 o.back] rfl rfl ?c1 ?c2 (by decide) ?c3 (by omega) ?c4 (wo.heap.size + 1) (by simp) ?_)
        case c1 => exact World.news_of_block (Blk.new wo 72 #[.int .i64 o.slot, .int .i64 o.gen, .int .i64 o.thing, .bool true, .int .i64 o.back])
        case c2 => intro u hu; simp at hu; rcases hu with rfl | rfl | rfl | rfl | rfl <;> rfl
        case c3 => unfold maxLen; omega
        case c4 => simp; omega
        intro g1 cap1 w3 hown1 hgrow1 hat1 hlt1
        have hg' : wo.grownBy w3 (Value.slice ax x.length capx).ownBlock := grown_of_alloc (k := 0) hgrow1
        have hb3 : Below w.heap.size w w3 := HB.out.trans (((Mod.refl (fun k => (Value.slice ax x.length capx).ownBlock = some k) _).grown hg' (fun k hk _ => hk)).below HB.out.size (fun k hk => (HO.out.lt k hk).1))
        have ho3 : w3.ownsRow w.heap.size 72 5 (.slice (some ⟨g1, 0, none⟩) (x.length + 1) cap1) (x ++ [o]).length ((x ++ [o]).flatMap oc) := by rw [oc_snoc, HA.out]; simpa using hown1
        have HB3 := Lib.hid hb3
        have HO3 := Lib.hid ho3
        have hlx' := hlx
        unfold maxLen at hlx'
        clear hown1 hgrow1 hat1 hg' hb3 ho3
        go_wp2_with fail
        go_loopw [5] (fun jx wq => ∃ (l1 l2 : List One), jx = .int .i64 (l1.length : Int) ∧ Hid (x = l1 ++ l2 ∧ ∀ q ∈ l2, o.slot < q.slot) ∧ wq.ownsRow w.heap.size 72 5 (.slice (some ⟨g1, 0, none⟩) (x.length + 1) cap1) (x.length + 1) ((l1 ++ o :: l2).flatMap oc) ∧ Below w.heap.size w wq) (fun jx _ => (intOf jx).toNat)
        case atStart => exact ⟨x, [], by simp, Lib.hid ⟨by simp, by simp⟩, by simpa using HO3.out, HB3.out⟩
        case round =>
          obtain ⟨l1, l2, rfl, HX, hor, hbr⟩ := hrel
          have hxl : x.length = l1.length + l2.length := by rw [HX.out.1]; simp
          have HRR := Lib.hid hor
          have HBR := Lib.hid hbr
          have hws := hbr.size
          clear hor hbr
          rcases List.eq_nil_or_concat l1 with rfl | ⟨l0, p, rfl⟩
          · simp only [List.length_nil]
            have hins : Hid (Ins x o ([] ++ o :: l2)) := Lib.hid ⟨[], l2, HX.out.1, rfl, HX.out.2, by simp⟩
            have hxl2 : Hid (([] ++ o :: l2 : List One).length = x.length + 1) := Lib.hid (by rw [HX.out.1]; simp)
            go_wp2_with fail
            go_quiet (fail)
            go_wp2_with fail
            go_roundw
            case rel => exact ⟨k + 1, [] ++ o :: l2, by omega, by rw [hxl2.out]; omega, by go_num, Lib.hid (.put HL.out HOO.out HA.out hins.out), by rw [hxl2.out]; exact own_drewN HRR.out _, bdrewN HBR.out _⟩
            case measure => simp only [intOf]; omega
          · rw [List.concat_eq_append] at HX HRR ⊢
            have hl0 : (l0 ++ [p]).length = l0.length + 1 := by simp
            have hxl : x.length = l0.length + 1 + l2.length := by rw [hxl]; simp
            have hp0 : ((l0 ++ [p]) ++ o :: l2)[l0.length]? = some p := by simp
            have hp1 : ((l0 ++ [p]) ++ o :: l2)[l0.length + 1]? = some o := by simp
            have hlen : ((l0 ++ [p]) ++ o :: l2).length = x.length + 1 := by simp; omega
            obtain ⟨z0, z1, z2, z3, z4⟩ := oc_at _ _ _ hp0
            obtain ⟨v0, v1, v2, v3, v4⟩ := oc_at _ _ _ hp1
            have cc : ∀ j, j < (x.length + 1) * 5 → wr.cell? ⟨g1, j, none⟩ = (((l0 ++ [p]) ++ o :: l2).flatMap oc)[j]? := fun j hj => HRR.out.cellAt j hj
            have z0 := (cc _ (by omega)).trans z0
            have v0 := (cc _ (by omega)).trans v0
            have HZ0 := Lib.hid z0
            have HV0 := Lib.hid v0
            have HZ1 := Lib.hid ((cc _ (by omega)).trans z1)
            have HZ2 := Lib.hid ((cc _ (by omega)).trans z2)
            have HZ3 := Lib.hid ((cc _ (by omega)).trans z3)
            have HZ4 := Lib.hid ((cc _ (by omega)).trans z4)
            have HV1 := Lib.hid ((cc _ (by omega)).trans v1)
            have HV2 := Lib.hid ((cc _ (by omega)).trans v2)
            have HV3 := Lib.hid ((cc _ (by omega)).trans v3)
            have HV4 := Lib.hid ((cc _ (by omega)).trans v4)
            have HPL := Lib.hid hlen
            have HP0 := Lib.hid hp0
            have HP1 := Lib.hid hp1
            rw [hl0]
            have e1 : ((l0.length + 1 : Nat) : Int) = (l0.length : Int) + 1 := by omega
            rw [e1]
            have e2 : ((l0.length : Int) + 1).toNat = l0.length + 1 := by omega
            have e3 : IntKind.i64.wrap ((l0.length : Int) + 1 - 1) = (l0.length : Int) := by rw [IntKind.wrap_i64]; omega
            have e4 : (0 : Int) ≤ (l0.length : Int) + 1 := by omega
            have e5 : decide ((0 : Int) < (l0.length : Int) + 1) = true := decide_eq_true (by omega)
            clear cc z1 z2 z3 z4 v1 v2 v3 v4 hl0 hlen hp0 hp1 e1
            by_cases hgt : o.slot < p.slot
            · have k1 : decide (o.slot < p.slot) = true := decide_eq_true hgt
              go_wp2_with fail
              go_quiet (fail)
              go_wp2_with fail
              obtain ⟨p0, p1, p2, p3, p4⟩ := p
              obtain ⟨o0, o1, o2, o3, o4⟩ := o
              simp only at z0 v0 hgt
              have z1 := HZ1.out
              have z2 := HZ2.out
              have z3 := HZ3.out
              have z4 := HZ4.out
              have v1 := HV1.out
              have v2 := HV2.out
              have v3 := HV3.out
              have v4 := HV4.out
              simp only at z1 z2 z3 z4 v1 v2 v3 v4
              have yf : ∀ j, wr.frozen? ⟨g1, j, none⟩ = false := fun j => HRR.out.frozenAt j
              have y0 := yf (l0.length * 5)
              have y1 := yf (l0.length * 5 + 1)
              have y2 := yf (l0.length * 5 + 2)
              have y3 := yf (l0.length * 5 + 3)
              have y4 := yf (l0.length * 5 + 4)
              have u0 := yf ((l0.length + 1) * 5)
              have u1 := yf ((l0.length + 1) * 5 + 1)
              have u2 := yf ((l0.length + 1) * 5 + 2)
              have u3 := yf ((l0.length + 1) * 5 + 3)
              have u4 := yf ((l0.length + 1) * 5 + 4)
              clear yf
              have HSW := Lib.hid (swap_row (o := ⟨o0, o1, o2, o3, o4⟩) (p := ⟨p0, p1, p2, p3, p4⟩) HRR.out)
              have HLP := Lib.hid (HX.out)
              clear z0 z1 z2 z3 z4 v0 v1 v2 v3 v4 HX
              have z0 := HZ0.out
              have v0 := HV0.out
              have z1 := HZ1.out
              have z2 := HZ2.out
              have z3 := HZ3.out
              have z4 := HZ4.out
              have v1 := HV1.out
              have v2 := HV2.out
              have v3 := HV3.out
              have v4 := HV4.out
              simp only at z0 z1 z2 z3 z4 v0 v1 v2 v3 v4
              clear HZ0 HV0 HZ1 HZ2 HZ3 HZ4 HV1 HV2 HV3 HV4
              go_region
              all_goals
                go_wp2_with fail
                go_roundw
                case rel => exact ⟨l0, _ :: l2, by go_num, Lib.hid ⟨by rw [HLP.out.1]; simp, by intro q hq; simp at hq; rcases hq with rfl | hq; exact hgt; exact HLP.out.2 q hq⟩, (HSW.out (nq + 1)).1, HBR.out.trans (HSW.out (nq + 1)).2⟩
                case measure => simp only [intOf]; omega
            · have k1 : decide (o.slot < p.slot) = false := decide_eq_false hgt
              have hins : Hid (Ins x o ((l0 ++ [p]) ++ o :: l2)) := Lib.hid ⟨l0 ++ [p], l2, HX.out.1, rfl, HX.out.2, by intro q hq; simp at hq; subst hq; omega⟩
              clear hgt
              go_wp2_with fail
              go_quiet (fail)
              go_wp2_with fail
              go_roundw
              case rel => exact ⟨k + 1, (l0 ++ [p]) ++ o :: l2, by omega, by rw [HPL.out]; omega, by go_num, Lib.hid (.put HL.out HOO.out HA.out hins.out), by rw [HPL.out]; exact own_drewN HRR.out _, bdrewN HBR.out _⟩
              case measure => simp only [intOf]; omega
    · have hke : k = all.length := by omega
      subst hke
      go_wp2_with fail
      go_ret
      exact ⟨_, x, rfl, HL.out, HO.out, HB.out⟩
end Go.Proofs.Ytppoakomeaamhaa
