/- Values and terms compared. What query.Match tells, plainly. query.Match, walked. -/
import Derived.Test.YtgilflkgibfjgaaGreatDoorGb
import Derived.Laws.StructEq
import Derived.OwnWalk
import Derived.Deep.QuietTactic
import Derived.BigQuiet
namespace Go.Proofs.YtgilflkgibfjgaaGreatDoor
open Go.RowKit
set_option linter.unusedVariables false

/-- A value: kind, number, text. -/
structure Vl where
  k : Int
  n : Int
  t : List UInt8
deriving DecidableEq
def Vl.cells (v : Vl) : List Value := [.int .i64 v.k, .int .i64 v.n, .string ⟨v.t.toArray⟩]
def Trm.vl (t : Trm) : Vl := ⟨t.k, t.n, t.t⟩

def f3 (f : Field) : String × TypeId × Nat := (f.name, f.type, f.offset)
/-- The fields' comparison, by name, type and place alone. -/
def eqF (d : Nat) (xs ys : Array Value) : List (String × TypeId × Nat) → Sem Bool
  | [] => pure true
  | f :: fs =>
    if f.1 ≠ "_" then do
      let a ← part f.2.1 xs f.2.2
      let b ← part f.2.1 ys f.2.2
      let r ← Op.equalIn d f.2.1 a b
      if (!r) = true then pure false else eqF d xs ys fs
    else eqF d xs ys fs
theorem eqF_of (d : Nat) (xs ys : Array Value) : ∀ fs : List Field, Op.eqFields d xs ys fs = eqF d xs ys (fs.map f3)
  | [] => rfl
  | f :: fs => by
    have := eqF_of d xs ys fs
    simp only [Op.eqFields, List.map_cons, eqF, f3, this]

theorem ba_beq (a b : List UInt8) : ((⟨a.toArray⟩ : ByteArray).toList == (⟨b.toArray⟩ : ByteArray).toList) = decide (a = b) := by
  rw [ByteArray.toList_eq, ByteArray.toList_eq]
  simp only
  by_cases h : a = b <;> simp [h]

set_option maxHeartbeats 1000000 in
theorem equal_value (d : Nat) (a b : Vl) (w : World) : (Op.equalIn (d + 2) 65 (.agg a.cells.toArray) (.agg b.cells.toArray)).run Tryz.prog w = .ok (decide (a = b)) w := by
  have hf : (Tryz.prog.fieldsOf 65).toList.map f3 = [("Kind", 63, 0), ("Int", 2, 1), ("Text", 9, 2)] := by kernel_rfl
  have p1 : ∀ w, (isAgg 63).run Tryz.prog w = .ok false w := fun _ => by kernel_rfl
  have p2 : ∀ w, (isAgg 2).run Tryz.prog w = .ok false w := fun _ => by kernel_rfl
  have p3 : ∀ w, (isAgg 9).run Tryz.prog w = .ok false w := fun _ => by kernel_rfl
  rw [run_equalIn_agg w (d + 1) _ _ _ (by kernel_rfl) (by kernel_rfl), eqF_of, hf]
  have e1 := fun (x y : Int) (w : World) => run_equalIn_int (P := Tryz.prog) w d 63 .i64 .i64 x y Tryz.underlying63
  have e2 := fun (x y : Int) (w : World) => run_equalIn_int (P := Tryz.prog) w d 2 .i64 .i64 x y Tryz.underlying2
  have e3 := fun (x y : ByteArray) (w : World) => run_equalIn_string (P := Tryz.prog) w d 9 x y Tryz.underlying9
  obtain ⟨k, n, t⟩ := a
  obtain ⟨k', n', t'⟩ := b
  simp only [Vl.cells, eqF, part, Sem.run_bind, Sem.run_ite, p1, p2, p3, Result.andThen_ok]
  by_cases h1 : k = k' <;> by_cases h2 : n = n' <;> by_cases h3 : t = t' <;> simp [h1, h2, h3, e1, e2, e3, Vl.mk.injEq]
theorem eql_value (a b : Vl) (w : World) : (binOp .eql 65 (.agg a.cells.toArray) (.agg b.cells.toArray)).run Tryz.prog w = .ok (.bool (decide (a = b))) w := by
  rw [run_eql_struct, equal_value 9998]
  rfl
theorem neq_value (a b : Vl) (w : World) : (binOp .neq 65 (.agg a.cells.toArray) (.agg b.cells.toArray)).run Tryz.prog w = .ok (.bool (!decide (a = b))) w := by
  rw [run_neq_struct, equal_value 9998]
  rfl
end Go.Proofs.YtgilflkgibfjgaaGreatDoor
namespace Go.Proofs.YtgilflkgibfjgaaGreatDoor
open Go.RowKit
set_option linter.unusedVariables false

/-- The rest of the terms and values, given the values that the variables have so far. -/
def matchG (vars : List (List UInt8)) : List (Trm × Vl) → List Vl → Option (List Vl)
  | [], out => some out
  | (t, v) :: r, out =>
    if t.x = [] then (if v = t.vl then matchG vars r out else none)
    else if idxI vars t.x = out.length then matchG vars r (out ++ [v])
    else if out[(idxI vars t.x).toNat]? = some v then matchG vars r out else none
def matchR (ts : List Trm) (vs : List Vl) : Option (List Vl) := if vs.length = ts.length then matchG (atomVars ts) (ts.zip vs) [] else none

theorem addV_pre (o : List (List UInt8)) (t : Trm) : ∃ r, addV o t = o ++ r := by
  unfold addV addN
  split
  · exact ⟨[], by simp⟩
  · split
    · exact ⟨[], by simp⟩
    · exact ⟨[t.x], rfl⟩
theorem foldl_pre : ∀ (ts : List Trm) (o : List (List UInt8)), ∃ r, ts.foldl addV o = o ++ r
  | [], o => ⟨[], by simp⟩
  | t :: ts, o => by
    obtain ⟨r1, h1⟩ := addV_pre o t
    obtain ⟨r2, h2⟩ := foldl_pre ts (addV o t)
    refine ⟨r1 ++ r2, ?_⟩
    rw [List.foldl_cons, h2, h1, List.append_assoc]
theorem av_pre (ts : List Trm) (k : Nat) : ∃ r, atomVars ts = atomVars (ts.take k) ++ r := by
  obtain ⟨r, h⟩ := foldl_pre (ts.drop k) ((ts.take k).foldl addV [])
  refine ⟨r, ?_⟩
  unfold atomVars
  rw [← h, ← List.foldl_append, List.take_append_drop]

/-- The variables so far and where the next one stands. -/
theorem av_step {ts : List Trm} {k n : Nat} {t : Trm} (h : ts[k]? = some t) (hx : t.x ≠ []) (hk : atomVars (ts.take k) = (atomVars ts).take n) (hn : n ≤ (atomVars ts).length) :
    ∃ p : Nat, idxI (atomVars ts) t.x = p ∧ p ≤ n ∧ (p = n → n + 1 ≤ (atomVars ts).length ∧ atomVars (ts.take (k + 1)) = (atomVars ts).take (n + 1)) ∧ (p ≠ n → atomVars (ts.take (k + 1)) = (atomVars ts).take n) := by
  have hs : atomVars (ts.take (k + 1)) = addV (atomVars (ts.take k)) t := foldl_take_succ addV [] ts k t h
  obtain ⟨r, hr⟩ := av_pre ts (k + 1)
  rw [hs] at hr
  by_cases hm : t.x ∈ (atomVars ts).take n
  · have ha : addV (atomVars (ts.take k)) t = atomVars (ts.take k) := by
      unfold addV addN
      rw [if_neg hx, hk, if_pos hm]
    obtain ⟨p, hp⟩ := List.getElem?_of_mem hm
    have hpn : p < n := by
      have := (List.getElem?_eq_some_iff.1 hp).1
      rw [List.length_take] at this
      omega
    have hi : idxI (atomVars ts) t.x = ((atomVars ts).idxOf t.x : Int) := by
      unfold idxI
      rw [if_pos (List.mem_of_mem_take hm)]
    have hlt : (atomVars ts).idxOf t.x < n := by
      have e : (atomVars ts).idxOf t.x = ((atomVars ts).take n).idxOf t.x := by
        conv => lhs; rw [← List.take_append_drop n (atomVars ts)]
        rw [List.idxOf_append, if_pos hm]
      rw [e]
      have := List.idxOf_lt_length_of_mem hm
      rw [List.length_take] at this
      omega
    exact ⟨_, hi, by omega, fun e => by omega, fun _ => by rw [hs, ha, hk]⟩
  · have ha : addV (atomVars (ts.take k)) t = atomVars (ts.take k) ++ [t.x] := by
      unfold addV addN
      rw [if_neg hx, hk, if_neg hm]
    rw [ha, hk] at hr
    have hlen : ((atomVars ts).take n).length = n := by rw [List.length_take]; omega
    have hget : (atomVars ts)[n]? = some t.x := by
      rw [hr, List.append_assoc, List.getElem?_append_right (by rw [hlen]; exact Nat.le_refl _), hlen]
      simp
    have hl := (List.getElem?_eq_some_iff.1 hget).1
    refine ⟨n, idxI_hit hget hm, Nat.le_refl _, fun _ => ⟨hl, ?_⟩, fun e => absurd rfl e⟩
    rw [hs, ha, hk, List.take_add_one, hget]
    rfl
end Go.Proofs.YtgilflkgibfjgaaGreatDoor
namespace Go.Proofs.YtgilflkgibfjgaaGreatDoor
open Go.RowKit
set_option linter.unusedVariables false

/-- What Match tells. -/
def MatchPost (w : World) : Option (List Vl) → Ending → World → Prop
  | none, e, w' => e = .returned (.tuple #[.slice none 0 0, .bool false]) ∧ Below w.heap.size w w'
  | some l, e, w' => ∃ v, e = .returned (.tuple #[v, .bool true]) ∧ w'.ownsRow w.heap.size 65 3 v l.length (l.flatMap Vl.cells) ∧ Below w.heap.size w w'
theorem Tryz.infoVal : (Tryz.prog.info? 65).map (fun i => (i.zero, i.size, i.bytes)) = some (some (.agg #[.int .i64 0, .int .i64 0, .string ⟨#[]⟩]), 3, 32) := by kernel_rfl
theorem matchPost_none {w w' : World} (h : Below w.heap.size w w') : MatchPost w none (.returned (.tuple #[.slice none 0 0, .bool false])) w' := ⟨rfl, h⟩

theorem map_flatV (l : List Vl) : (l.map Vl.cells).flatten = l.flatMap Vl.cells := by
  induction l with
  | nil => rfl
  | cons a l ih => simp [ih]
def vlB (k n : Int) (t : List UInt8) (k' n' : Int) (t' : List UInt8) : Bool := decide ((⟨k, n, t⟩ : Vl) = ⟨k', n', t'⟩)

set_option maxHeartbeats 16000000 in
set_option maxRecDepth 100000 in
theorem match_any (w : World) (rel : ByteArray) (tv rv : Value) (ts : List Trm) (vs : List Vl) (h : RowAt w tv 4 (ts.map Trm.cells)) (hr : RowAt w rv 3 (vs.map Vl.cells)) (hn : ts.length ≤ 2932031007317) (hv : vs.length ≤ 4398046511104) :
    Calls Tryz.prog 55 #[.agg #[.string rel, tv], rv] w (MatchPost w (matchR ts vs)) := by
  obtain ⟨i0, hi0, hz0, hz1, hz2⟩ := info_parts Tryz.infoVal
  have hneq : ∀ (k n k' n' : Int) (t t' : List UInt8) (w : World), (binOp .neq 65 (.agg #[.int .i64 k, .int .i64 n, .string ⟨t.toArray⟩]) (.agg #[.int .i64 k', .int .i64 n', .string ⟨t'.toArray⟩])).run Tryz.prog w = .ok (.bool (!vlB k n t k' n' t')) w := fun k n k' n' t t' w => neq_value ⟨k, n, t⟩ ⟨k', n', t'⟩ w
  obtain ⟨ad, cap, rfl, hnc, hcm⟩ := h.form
  obtain ⟨rd, rcap, rfl, hrc, hrm⟩ := hr.form
  simp only [List.length_map] at hnc hrc ⊢
  unfold maxLen at hcm hrm
  by_cases hl : vs.length = ts.length
  · have hres : matchG (atomVars ts) ((ts.zip vs).drop 0) [] = matchR ts vs := by unfold matchR; rw [if_pos hl]; rfl
    generalize matchR ts vs = RES at *
    have HRES := Lib.hid hres
    have hb0 : Below w.heap.size w (w.alloc (.cells #[.string rel, .slice ad ts.length cap] 93)) := balloc (Below.refl _ _) _
    have hav := atomVars_any (w.alloc (.cells #[.string rel, .slice ad ts.length cap] 93)) rel _ ts (by simpa using h.keep hb0) hn
    have hvl := atomVars_len ts
    have HR := Lib.hid h
    have HRR := Lib.hid hr
    have HB0 := Lib.hid hb0
    have HAV := Lib.hid hav
    have bx := Blk.new w 93 #[.string rel, .slice ad ts.length cap]
    have BX := Lib.hid bx
    have HST := Lib.hid (fun k t (h : ts[k]? = some t) hx n hk hn => av_step (n := n) h hx hk hn)
    generalize hV : atomVars ts = V at *
    have HV := Lib.hid hV
    generalize hN : ts.length = n0 at *
    generalize hM : vs.length = n at *
    subst hl
    have HN := Lib.hid hN
    have HL := Lib.hid hM
    clear hres hb0 hav h hr bx hV hN hM
    go_enter Tryz.func55, Tryz.ntmps55
    go_wp2_with fail
    refine HAV.out.mono ?_
    rintro e w1 ⟨v, rfl, hown, hb1⟩
    obtain ⟨va, vc, rfl⟩ := own_sl hown
    have bx1 := BX.out.below hb1 (by simp)
    have hbw1 : Below w.heap.size w w1 := HB0.out.trans (hb1.mono (by simp))
    have HBX1 := Lib.hid bx1
    have HBW1 := Lib.hid hbw1
    have hw1z := hbw1.size
    have HOV := Lib.hid (World.ownsRow.low hown (show 0 ≤ _ from Nat.zero_le _))
    clear bx1 hbw1 hown hb1
    go_wp2_with (at_make; refine wpList_make_own _ rfl _ _ 51 rfl w.heap.size 65 i0 (.agg #[.int .i64 0, .int .i64 0, .string ⟨#[]⟩]) 3 Tryz.underlying51 hi0 hz0 hz1 _ _ _ V.length rfl rfl rfl ?b2 ?b3 ?b4 ?_)
    case b2 => rw [hz2]; omega
    case b3 => unfold maxLen; omega
    case b4 => omega
    intro w2 hown2 hgrow2
    have hbw2 : Below w.heap.size w w2 := HBW1.out.grown hgrow2 hw1z (fun q hq => by cases hq)
    have bx2 := HBX1.out.grown hgrow2 (by simp)
    have x0 := bx2.cell 0
    have x1 := bx2.cell 1
    simp only [List.getElem?_toArray, List.getElem?_cons_zero, List.getElem?_cons_succ] at x0 x1
    have hxl := bx2.lt
    have HOV2 := Lib.hid (World.ownsRow.kept HOV.out hgrow2 (by cases hh : Value.ownBlock (.slice va V.length vc) <;> simp))
    have HOW2 := Lib.hid hown2
    have HBW2 := Lib.hid hbw2
    clear hbw2 bx2 hown2 hgrow2
    go_wp2_with fail
    go_loopw [7, 25] (fun v i wr => ∃ (k : Nat) (o : List Vl) (oa : Option Addr) (oc : Nat), k ≤ n ∧ i = .int .i64 k ∧ v = .slice oa o.length oc ∧ Hid (wr.ownsRow w.heap.size 65 3 (.slice oa o.length oc) o.length (o.flatMap Vl.cells)) ∧ Hid (wr.ownsRow 0 9 1 (.slice va V.length vc) V.length (V.map fun s => .string ⟨s.toArray⟩)) ∧ Hid (Below w.heap.size w wr) ∧ Hid (matchG V ((ts.zip vs).drop k) o = RES) ∧ Hid (atomVars (ts.take k) = V.take o.length) ∧ o.length ≤ V.length) (fun _ i _ => n - (intOf i).toNat)
    case atStart => exact ⟨0, [], _, _, Nat.zero_le _, rfl, rfl, HOW2, HOV2, HBW2, HRES, Lib.hid (by simp [atomVars]), Nat.zero_le _⟩
    case round =>
      obtain ⟨k, o, oa, oc, hk, rfl, rfl, OW, OV, HB, HE, HP, hol⟩ := hrel
      by_cases hlt : k < n
      · obtain ⟨t, ht⟩ : ∃ t, ts[k]? = some t := ⟨ts[k]'(by rw [HN.out]; exact hlt), List.getElem?_eq_getElem (by rw [HN.out]; exact hlt)⟩
        obtain ⟨u, hu⟩ : ∃ u, vs[k]? = some u := ⟨vs[k]'(by rw [HL.out]; exact hlt), List.getElem?_eq_getElem (by rw [HL.out]; exact hlt)⟩
        have hz : (ts.zip vs)[k]? = some (t, u) := by rw [List.getElem?_zip_eq_some]; exact ⟨ht, hu⟩
        have hd : (ts.zip vs).drop k = (t, u) :: (ts.zip vs).drop (k + 1) := by rw [List.drop_eq_getElem_cons (List.getElem?_eq_some_iff.1 hz).1, (List.getElem?_eq_some_iff.1 hz).2]
        have he := HE.out
        rw [hd] at he
        simp only [matchG] at he
        obtain ⟨tb, to, tcap, htv, _, _, htbl, htc⟩ := (HR.out.keep HB.out).get (i := k) (x := t.cells) (by simp [ht])
        simp only [List.length_map, HN.out, Value.slice.injEq, true_and] at htv
        obtain ⟨rfl, rfl⟩ := htv
        obtain ⟨rb, ro, rcap', hrv, _, _, hrbl, hrc'⟩ := (HRR.out.keep HB.out).get (i := k) (x := u.cells) (by simp [hu])
        simp only [List.length_map, HL.out, Value.slice.injEq, true_and] at hrv
        obtain ⟨rfl, rfl⟩ := hrv
        have t0 := htc 0 _ rfl
        have t1 := htc 1 _ rfl
        have t2 := htc 2 _ rfl
        have t3 := htc 3 _ rfl
        have r0 := hrc' 0 _ rfl
        have r1 := hrc' 1 _ rfl
        have r2 := hrc' 2 _ rfl
        simp only [Nat.add_zero] at t0 r0
        have hdk : decide ((k : Int) < 0) = false := by simp
        have hdn : decide ((n : Int) ≤ (k : Int)) = false := by simp; omega
        have hbz := HB.out.size
        clear htc hrc' hz hd hu
        by_cases hx : t.x = []
        · have hsk : atomVars (ts.take (k + 1)) = V.take o.length := by
            rw [← HP.out]
            unfold atomVars
            rw [foldl_take_succ addV [] ts k t ht]
            unfold addV
            rw [if_pos hx]
          have HSK := Lib.hid hsk
          rw [hx] at t0
          rw [if_pos hx] at he
          by_cases hq : u = t.vl
          · have hvb : vlB u.k u.n u.t t.k t.n t.t = true := decide_eq_true hq
            rw [if_pos hq] at he
            have HE2 := Lib.hid he
            clear he hq hx hsk ht
            go_wp2_with fail
            go_quiet (fail)
            go_wp2_with fail
            go_roundw
            case rel => exact ⟨k + 1, o, oa, oc, by omega, by go_num, rfl, Lib.hid ((Mod.ofBelow (F := fun _ => False) (bdrewN (balloc (Below.refl _ _) _) _)).ownsRow OW.out (fun _ _ f => f)), Lib.hid ((Mod.ofBelow (F := fun _ => False) (bdrewN (balloc (Below.refl _ _) _) _)).ownsRow OV.out (fun _ _ f => f)), Lib.hid (bdrewN (balloc HB.out _) _), HE2, HSK, hol⟩
            case measure => simp [intOf]; omega
          · have hvb : vlB u.k u.n u.t t.k t.n t.t = false := decide_eq_false hq
            rw [if_neg hq] at he
            subst he
            clear hq hx hsk ht
            go_wp2_with fail
            go_quiet (fail)
            go_wp2_with fail
            go_ret2
            exact matchPost_none (bdrewN (balloc HB.out _) _)
        · obtain ⟨p, hp, hpo, h1, h2⟩ := HST.out k t ht hx o.length HP.out hol
          have he2 : t.x.isEmpty = false := by
            cases hxx : t.x with
            | nil => exact absurd hxx hx
            | cons _ _ => rfl
          have he3 : (!t.x.isEmpty) = true := by rw [he2]; rfl
          have hst : StrsAt (wr.alloc (.cells #[.string ⟨t.x.toArray⟩, .int .i64 t.k, .int .i64 t.n, .string ⟨t.t.toArray⟩] 106)) (.slice va V.length vc) V := StrsAt.keep (OwnS.strs (show OwnS 0 wr _ V from OV.out) (by omega)) (balloc (Below.refl _ _) _)
          have hix := index_any _ _ V t.x hst
          rw [hp] at hix
          rw [if_neg hx, hp] at he
          have HIX := Lib.hid hix
          by_cases hpe : p = o.length
          · have hb1 : ((p : Int) == (o.length : Int)) = true := by simp [hpe]
            rw [if_pos (by rw [hpe])] at he
            obtain ⟨h3, h4⟩ := h1 hpe
            have HE2 := Lib.hid he
            have H4 := Lib.hid h4
            clear he hx ht hp h1 h2 hix hst hpe
            have OWX := Lib.hid (show World.ownsRow (wr.alloc (.cells #[.string ⟨t.x.toArray⟩, .int .i64 t.k, .int .i64 t.n, .string ⟨t.t.toArray⟩] 106)) w.heap.size 65 3 (.slice oa o.length oc) o.length (o.flatMap Vl.cells) from OW.out.alloc _)
            go_wp2_with fail
            refine HIX.out.mono ?_
            rintro e w5 ⟨rfl, rfl⟩
            go_wp2_with (at_builtin; refine wpList_append_lies _ rfl (.tmp 49) (.tmp 54) 51 rfl w.heap.size 65 i0 (.agg #[.int .i64 0, .int .i64 0, .string ⟨#[]⟩]) 3 32 Tryz.underlying51 hi0 hz0 hz1 hz2 rfl (by decide) (.slice oa o.length oc) o.length _ rfl (OWX.out.alloc _) ⟨_, 0, none⟩ 1 1 [.int .i64 u.k, .int .i64 u.n, .string ⟨u.t.toArray⟩] rfl rfl (World.news_of_block (blkNew1 _ _ _ _)) (by simp [Value.oneCell']) (by decide) ?c3 ?c5 ?c4 _ rfl ?_)
            case c3 => unfold maxLen; omega
            case c5 => omega
            case c4 => simp; omega
            intro g cap1 w6 hown2 hgrow2 hat2 hlt2
            have HB6 := Lib.hid ((balloc (balloc HB.out _) _).grown hgrow2 (by simp; omega) (fun q hq => (OW.out.lt q hq).1))
            have m6 : MT 0 [65] wr w6 := (((MT.refl wr).alloc _).alloc _).grown hgrow2 (OWX.out.alloc _) (by simp) (Nat.zero_le _)
            have HV6 := Lib.hid (m6.ownsRow OV.out (by decide))
            have HO6 := Lib.hid hown2
            clear hown2 hgrow2 hat2 hlt2 m6
            go_wp2_with fail
            go_roundw
            case rel => exact ⟨k + 1, o ++ [u], some ⟨g, 0, none⟩, cap1, by omega, by go_num, by simp, Lib.hid (by have := HO6.out; simpa [Vl.cells] using this), HV6, HB6, HE2, Lib.hid (by rw [H4.out]; simp), by simp; omega⟩
            case measure => simp [intOf]; omega
          · have hb1 : ((p : Int) == (o.length : Int)) = false := by rw [beq_eq_false_iff_ne]; omega
            rw [if_neg (by omega), Int.toNat_natCast] at he
            have h4 := h2 hpe
            have hplt : p < o.length := by omega
            obtain ⟨y, hy⟩ : ∃ y, o[p]? = some y := ⟨o[p], List.getElem?_eq_getElem hplt⟩
            have hor : RowAt wr (.slice oa o.length oc) 3 (o.map Vl.cells) := RowAt.ofOwn (by rw [map_flatV]; exact OW.out) (by simp) (by intro c hc; simp at hc; obtain ⟨a, _, rfl⟩ := hc; rfl) (by simp; omega)
            obtain ⟨ob, oo, ocap, hov, _, _, hobl, hoc⟩ := hor.get (i := p) (x := y.cells) (by simp [hy])
            simp only [List.length_map, Value.slice.injEq, true_and] at hov
            obtain ⟨rfl, rfl⟩ := hov
            have o0 := hoc 0 _ rfl
            have o1 := hoc 1 _ rfl
            have o2 := hoc 2 _ rfl
            simp only [Nat.add_zero] at o0
            have hdp : decide ((p : Int) < 0) = false := by simp
            have hdo : decide ((o.length : Int) ≤ (p : Int)) = false := by simp; omega
            rw [hy] at he
            have H4 := Lib.hid h4
            by_cases hq : y = u
            · have hvb : vlB y.k y.n y.t u.k u.n u.t = true := decide_eq_true hq
              rw [if_pos (by rw [hq])] at he
              have HE2 := Lib.hid he
              clear he hx ht hp h1 h2 hix hst hpe hoc hor hy hq h4
              go_wp2_with fail
              refine HIX.out.mono ?_
              rintro e w5 ⟨rfl, rfl⟩
              go_wp2_with fail
              go_quiet (fail)
              go_wp2_with fail
              go_roundw
              case rel => exact ⟨k + 1, o, _, oc, by omega, by go_num, rfl, Lib.hid ((Mod.ofBelow (F := fun _ => False) (bdrewN (balloc (Below.refl _ _) _) _)).ownsRow OW.out (fun _ _ f => f)), Lib.hid ((Mod.ofBelow (F := fun _ => False) (bdrewN (balloc (Below.refl _ _) _) _)).ownsRow OV.out (fun _ _ f => f)), Lib.hid (bdrewN (balloc HB.out _) _), HE2, H4, hol⟩
              case measure => simp [intOf]; omega
            · have hvb : vlB y.k y.n y.t u.k u.n u.t = false := decide_eq_false hq
              rw [if_neg (by simpa using hq)] at he
              subst he
              clear hx ht hp h1 h2 hix hst hpe hoc hor hy hq h4
              go_wp2_with fail
              refine HIX.out.mono ?_
              rintro e w5 ⟨rfl, rfl⟩
              go_wp2_with fail
              go_quiet (fail)
              go_wp2_with fail
              go_ret2
              exact matchPost_none (bdrewN (balloc HB.out _) _)
      · obtain rfl : k = n := by omega
        have he := HE.out
        rw [List.drop_of_length_le (by rw [List.length_zip, HL.out, HN.out]; simp)] at he
        unfold matchG at he
        subst he
        go_wp2_with fail
        go_ret2
        exact ⟨_, rfl, OW.out, HB.out⟩
  · have hres : matchR ts vs = none := by unfold matchR; rw [if_neg hl]
    have hq : ((vs.length : Int) != (ts.length : Int)) = true := by simpa using fun e => hl (by omega)
    rw [hres]
    clear hres h hr hneq
    go_enter Tryz.func55, Tryz.ntmps55
    go_wp2_with fail
    go_ret2
    exact matchPost_none (balloc (Below.refl _ _) _)
end Go.Proofs.YtgilflkgibfjgaaGreatDoor
