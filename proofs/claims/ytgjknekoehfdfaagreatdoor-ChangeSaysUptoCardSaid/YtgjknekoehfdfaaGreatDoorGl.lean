/- The frame of a law's proof over listed variables where the arguments' bulk is bounded; a query that came in. A batch as an argument, opened. -/
import Derived.Test.YtgjknekoehfdfaaGreatDoorGh
import Derived.Test.YtgjknekoehfdfaaGreatDoorCh0Z
import Derived.JoinedCond
import Derived.SizedLaws
namespace Go.Proofs.YtgjknekoehfdfaaGreatDoor
open Go.ChangeShapes Go.WideShapes Go.ChangeAt Go.RowKit Go.Deep Go.Joins
set_option linter.unusedVariables false

section
variable {H : Type} {enc : TypeId × Value → H}
theorem returnsInHanded_of_cond_and {a : Assume} {C : Checked} {os : Os} {f : FuncId} {fn : Func} {s : OpenSpec} {k : (H : Type) → List (DataW H) → Bool} (hk : s.cond = some k) {F : Stop.Interp} {conds : List PathCond} {apart fresh handsOn again : Bool} {X : World → Array Value → Prop}
    (hX : ∀ (w w' : World) (args : Array Value), w.heap = w'.heap → X w args → X w' args)
    (own : ownKnob C.prog.godebug = none) (started : os.Started) (noInit : C.prog.inits.idxOf? f = none) (hfn : C.prog.funcs[f]? = some fn)
    (witness : ∃ (w : World) (tape : Tape) (i : Input), w.os = os ∧ (w.forCall tape i).Shaped C.prog ∧ i.vars = [] ∧ Input.okWide C.prog (w.forCall tape i) .any w.heap.size f i ∧
      ((s.pre enc C.prog fn conds apart (w.forCall tape i).memory i.args ∧ X (w.forCall tape i).memory i.args) ∧ sizedMet enc C.prog fn s apart (w.forCall tape i).memory i.args) ∧ a.holds C.prog (lone (Frame.enter C.prog f i.args .normal) [] (w.forCall tape i)))
    (contract : ∀ (W : World) (base : Nat) (args : Array Value) (ds gs : List (DataW H)) (before : List MemPlace),
      (∀ (j : Nat) t v, fn.params[j]? = some t → args[j]? = some v → Value.okWide C.prog W .any base t v) →
      DataW.Whole enc C.prog fn.params.toList s.vars apart W args.toList ds gs before →
      conds.all (PathCond.test C.prog ⟨fn.params.toList, ds, s.bare.plain.varTypes C.prog, gs⟩) = true → k H (ds ++ gs) = true →
      (DataW.weightsEach C.prog (fn.params.toList ++ s.bare.plain.varTypes C.prog) (ds ++ gs)).all (· ≤ reachBytes) = true → X W args →
      a.holds C.prog (lone (Frame.enter C.prog f args .normal) [] W) →
      Calls C.prog f args W fun e W' => ∃ v, e = .returned v ∧ (s.at F).post enc C.prog fn apart fresh handsOn again W args v W') :
    ReturnsInHanded a C os f .any (fun w args => (s.pre enc C.prog fn conds apart w args ∧ X w args) ∧ sizedMet enc C.prog fn s apart w args) ((s.at F).post enc C.prog fn apart fresh handsOn again) := by
  refine returnsInHanded_of_calls own started noInit witness ?_
  intro w tape i _ _ _ hok hpre hholds
  obtain ⟨_, _, _, fn', hfn', _, _, _, _, hval⟩ := hok
  have e : fn' = fn := Option.some.inj (hfn'.symm.trans hfn)
  subst e
  obtain ⟨⟨hp, hx⟩, hz⟩ := hpre
  obtain ⟨ds, gs, before, hw, hc, hkk⟩ := (OpenSpec.pre_some hk conds apart _ _).1 hp
  have hw' := DataW.Whole.of_heap (w' := w.forCall tape i) (by rfl) hw
  refine (contract (w.forCall tape i) w.heap.size i.args ds gs before hval hw' hc hkk (hz.weights hw) (hX _ _ _ (by rfl) hx) hholds).mono fun e W' ⟨v, he, hp⟩ => ?_
  subst he
  exact ChangeSpec.post_blind hp

theorem witness_cond {C : Checked} {os : Os} {f : FuncId} {fn : Func} {s : OpenSpec} {k : (H : Type) → List (DataW H) → Bool} (hk : s.cond = some k) {conds : List PathCond} {apart : Bool} {X : World → Array Value → Prop} (modest : Bool) (w0 : World) (args : Array Value) (fuel : Nat) (hos : w0.os = os)
    (hsh : (w0.forCall (fun _ _ => 0) ⟨#[], args, []⟩).Shaped C.prog)
    (hok : Input.okWideB C.prog (w0.forCall (fun _ _ => 0) ⟨#[], args, []⟩) f ⟨#[], args, []⟩ = true)
    {x : List (DataW H) × List (DataW H) × List MemPlace} (hx : DataW.whole enc C.prog (w0.forCall (fun _ _ => 0) ⟨#[], args, []⟩).memory fn.params.toList s.vars apart args.toList fuel = some x)
    (hconds : conds.all (PathCond.test C.prog ⟨fn.params.toList, x.1, s.bare.plain.varTypes C.prog, x.2.1⟩) = true) (hkk : k H (x.1 ++ x.2.1) = true)
    (hsz : s.bare.sizedB enc C.prog fn apart (w0.forCall (fun _ _ => 0) ⟨#[], args, []⟩).memory args fuel = true)
    (hX : X (w0.forCall (fun _ _ => 0) ⟨#[], args, []⟩).memory args) :
    ∃ (w : World) (tape : Tape) (i : Input), w.os = os ∧ (w.forCall tape i).Shaped C.prog ∧ i.vars = [] ∧ Input.okWide C.prog (w.forCall tape i) .any w.heap.size f i ∧
      ((s.pre enc C.prog fn conds apart (w.forCall tape i).memory i.args ∧ X (w.forCall tape i).memory i.args) ∧ sizedMet enc C.prog fn s apart (w.forCall tape i).memory i.args) ∧ ({ modest := modest } : Assume).holds C.prog (lone (Frame.enter C.prog f i.args .normal) [] (w.forCall tape i)) :=
  ⟨w0, fun _ _ => 0, ⟨#[], args, []⟩, hos, hsh, (Input.okWide_of_okWideB (base := 0) hok).1, (Input.okWide_of_okWideB hok).2, ⟨⟨(OpenSpec.pre_some hk conds apart _ _).2 ⟨x.1, x.2.1, x.2.2, DataW.Whole_of_whole hx, hconds, hkk⟩, hX⟩, sizedMet_of_sizedB hsz⟩, by
    simp only [Assume.holds]
    exact ⟨by simp, by simp, fun _ => Modest.zero, by simp, by simp⟩⟩

theorem bulk_one (d : DataW H) : 1 ≤ Rows.uptoBulk d := by
  cases d with
  | lit l => cases l <;> simp [Rows.uptoBulk]
  | nil => simp [Rows.uptoBulk]
  | ptr d => simp [Rows.uptoBulk]
  | slice elems spare => simp [Rows.uptoBulk]
  | agg parts => simp [Rows.uptoBulk]
  | iface t d => simp [Rows.uptoBulk]
  | map entries => simp [Rows.uptoBulk]
  | held h => simp [Rows.uptoBulk]
theorem bulk_len (l : List (DataW H)) : l.length ≤ Rows.uptoBulkAll l := by
  induction l with
  | nil => simp [Rows.uptoBulkAll]
  | cons x r ih => have := bulk_one x; simp only [Rows.uptoBulkAll, List.length_cons]; omega

/-- An atom's datum. -/
def AtmD (d : DataW H) (a : Atm) : Prop := ∃ d0 d1, d = .agg [d0, d1] ∧ (a.ts = [] ∨ ∃ el sp, d1 = .slice el sp ∧ el.length = a.ts.length)
theorem tsum_bulk : ∀ {el : List (DataW H)} {al : List Atm}, All2 AtmD el al → tsum al ≤ Rows.uptoBulkAll el
  | [], [], _ => by simp [tsum, Rows.uptoBulkAll]
  | d :: el, a :: al, h => by
    have ih := tsum_bulk h.2
    obtain ⟨d0, d1, rfl, hd⟩ := h.1
    have h1 : a.ts.length ≤ Rows.uptoBulk d1 := by
      rcases hd with h0 | ⟨l, sp, rfl, hl⟩
      · rw [h0]; exact Nat.zero_le _
      · have := bulk_len l
        simp only [Rows.uptoBulk]
        omega
    simp only [tsum, List.map_cons, List.sum_cons, Rows.uptoBulkAll, Rows.uptoBulk] at ih ⊢
    omega
  | [], _ :: _, h => h.elim
  | _ :: _, [], h => h.elim
theorem all2_zip {α β γ : Type} {R : α → γ → Prop} {S : β → γ → Prop} : ∀ {l : List α} {m : List β} {n : List γ}, l.length = m.length → All2 (fun p c => R p.1 c ∧ S p.2 c) (l.zip m) n → All2 R l n ∧ All2 S m n
  | [], [], [], _, _ => ⟨trivial, trivial⟩
  | a :: l, b :: m, c :: n, h, h2 => by
    have ih := all2_zip (l := l) (m := m) (n := n) (by simpa using h) h2.2
    exact ⟨⟨h2.1.1, ih.1⟩, ⟨h2.1.2, ih.2⟩⟩
  | [], [], _ :: _, _, h => h.elim
  | _ :: _, [], _, h, _ => by simp at h
  | [], _ :: _, _, h, _ => by simp at h
  | _ :: _, _ :: _, [], _, h => h.elim

variable {w : World} {spare : Nat → Bool} {held : Bool}
set_option maxRecDepth 100000 in
theorem atoms_open {t : TypeId} {fuel : Nat} {v : Value} {x : DataW H × List MemPlace} (ht : Tryz.prog.underlying t = some (.slice 72)) (h : DataW.trod enc Tryz.prog w 0 spare held fuel t [v] = some x) (hs : Sz Tryz.prog t x.1) :
    ∃ al : List Atm, AtomsAt w v al ∧ (al = [] ∨ ∃ el sp, x.1 = .slice el sp ∧ All2 AtmD el al) ∧ ∀ a ∈ al, ∀ u ∈ a.ts, -9223372036854775808 ≤ u.n ∧ u.n ≤ 9223372036854775807 := by
  have hb : Tryz.prog.bytesOf 72 = 40 := by kernel_rfl
  obtain ⟨rows, hr, hd⟩ := open_rows (sz := 2) ht (by kernel_rfl) (by decide) h (fun el sp e => by
    have := (e ▸ hs).len ht
    rw [hb] at this
    omega)
  rcases hd with ⟨rfl, _⟩ | ⟨el, sp, e, hl, hi⟩
  · exact ⟨[], ⟨[], hr, trivial⟩, .inl rfl, by simp⟩
  · have hse := fun d (hd : d ∈ el) => (e ▸ hs : Sz Tryz.prog t (.slice el sp)).elem ht hd
    obtain ⟨al, hal⟩ := all2_of (fun (p : List Value × DataW H) (a : {a : Atm // ∀ u ∈ a.ts, -9223372036854775808 ≤ u.n ∧ u.n ≤ 9223372036854775807}) => AtmC w p.1 a.1 ∧ AtmD p.2 a.1) (rows.zip el) (fun p hp => by
      obtain ⟨i, hip⟩ := List.getElem?_of_mem hp
      rw [List.getElem?_zip_eq_some] at hip
      obtain ⟨_, n, d, Pl, hdi, hti⟩ := hi i p.1 hip.1
      rw [hip.2] at hdi
      simp only [Option.some.injEq] at hdi
      obtain ⟨a, h1, h2, h3⟩ := atm_open hti (hdi ▸ hse p.2 (List.mem_of_getElem? hip.2))
      exact ⟨⟨a, h2⟩, h1, hdi ▸ h3⟩)
    have h2 : All2 (fun (p : List Value × DataW H) (a : Atm) => AtmC w p.1 a ∧ AtmD p.2 a) (rows.zip el) (al.map (·.1)) := by
      clear hi hse hl
      generalize rows.zip el = z at hal
      induction z generalizing al with
      | nil => cases al with
        | nil => trivial
        | cons _ _ => exact hal.elim
      | cons p z ih => cases al with
        | nil => exact hal.elim
        | cons a al => exact ⟨hal.1, ih al hal.2⟩
    obtain ⟨h3, h4⟩ := all2_zip hl.symm h2
    refine ⟨al.map (·.1), ⟨rows, hr, h3⟩, .inr ⟨el, sp, e, h4⟩, fun a ha => ?_⟩
    obtain ⟨q, _, rfl⟩ := List.mem_map.1 ha
    exact q.2

set_option maxRecDepth 100000 in
theorem query_arg {base : Nat} {v : Value} {d : DataW H} {p : List MemPlace} (hv : Value.okWide Tryz.prog w .any base 41 v) (h : DataW.Trod enc Tryz.prog w 0 spare held 41 v d p) (hs : Sz Tryz.prog 41 d) (hb : Rows.uptoBulk d ≤ 1048576) :
    ∃ (name : ByteArray) (hv av : Value) (hd : List (List UInt8)) (al : List Atm), v = .agg #[.string name, hv, av] ∧ StrsAt w hv hd ∧ AtomsAt w av al ∧ al.length ≤ 1048576 ∧ tsum al ≤ 1048576 ∧ hd.length ≤ 1048576 ∧ (∀ a ∈ al, ∀ u ∈ a.ts, -9223372036854775808 ≤ u.n ∧ u.n ≤ 9223372036854775807) := by
  have hc : Tryz.prog.cellsOf 41 = 3 := by kernel_rfl
  obtain ⟨v0, v1, v2, y0, y1, y2, n, rfl, rfl, _, h0, h1, h2⟩ := open_agg3 Tryz.underlying41 (by kernel_rfl) hc hv h
  obtain ⟨s, e0, f0, _⟩ := DataW.trod_string Tryz.underlying9 h0
  simp only [List.cons.injEq, and_true] at e0
  subst e0
  obtain ⟨hd, hh, hhd⟩ := texts_open Tryz.underlying38 h1 (hs.field Tryz.underlying41 (j := 1) rfl rfl)
  obtain ⟨al, ha, had, hw⟩ := atoms_open Tryz.underlying39 h2 (hs.field Tryz.underlying41 (j := 2) rfl rfl)
  simp only [Rows.uptoBulk, Rows.uptoBulkAll] at hb
  have hb1 : hd.length ≤ Rows.uptoBulk y1.1 := by
    rcases hhd with e | ⟨el, sp, e, hl⟩
    · rw [e]; exact Nat.zero_le _
    · rw [e]
      have := bulk_len el
      simp only [Rows.uptoBulk]
      omega
  have hb2 : al.length ≤ Rows.uptoBulk y2.1 ∧ tsum al ≤ Rows.uptoBulk y2.1 := by
    rcases had with e | ⟨el, sp, e, hl⟩
    · rw [e]; exact ⟨Nat.zero_le _, by simp [tsum]⟩
    · rw [e]
      have h3 := bulk_len el
      have h4 := hl.length
      have h5 := tsum_bulk hl
      simp only [Rows.uptoBulk]
      exact ⟨by omega, by omega⟩
  exact ⟨s, v1, v2, hd, al, rfl, hh, ha, by omega, by omega, by omega, hw⟩
end
end Go.Proofs.YtgjknekoehfdfaaGreatDoor
namespace Go.Proofs.YtgjknekoehfdfaaGreatDoor
open Go.ChangeShapes Go.WideShapes Go.ChangeAt Go.RowKit Go.Deep
set_option linter.unusedVariables false
section
variable {H : Type} {enc : TypeId × Value → H} {w : World} {spare : Nat → Bool} {held : Bool}
set_option maxRecDepth 100000 in
theorem chg_open {n : Nat} {row : List Value} {d : DataW H} {Pl : List MemPlace} (h : DataW.trod enc Tryz.prog w 0 spare held n 30 row = some (d, Pl)) (hs : Sz Tryz.prog 30 d) :
    ∃ a : Chg, ChgC w row a ∧ (∀ u ∈ a.row, RangeV u) ∧ a.rel.length ≤ 140737488351232 := by
  obtain ⟨y0, y1, y2, m, hx, hl, h0, h1, h2⟩ := trod_struct3 Tryz.underlying30 h
  have hc : Tryz.prog.cellsOf 30 = 3 := by kernel_rfl
  have c0 : Tryz.prog.cellsOf 4 = 1 := by kernel_rfl
  have c1 : Tryz.prog.cellsOf 9 = 1 := by kernel_rfl
  have c2 : Tryz.prog.cellsOf 28 = 1 := by kernel_rfl
  rw [hc] at hl
  simp only [Prod.mk.injEq] at hx
  rw [hx.1] at hs
  obtain ⟨a, b, c, rfl⟩ := len3 hl
  · simp only [c0, c1, c2, List.drop_zero, List.take_succ_cons, List.take_zero, List.drop_succ_cons] at h0 h1 h2
    obtain ⟨ad, e0, f0⟩ := DataW.trod_bool Tryz.underlying4 h0
    obtain ⟨s, e1, f1, _⟩ := DataW.trod_string Tryz.underlying9 h1
    simp only [List.cons.injEq, and_true] at e0 e1
    subst e0 e1
    have hsz : s.data.toList.length ≤ 140737488351232 := by
      have h1' := (hs.field Tryz.underlying30 (j := 1) (u := 9) (d := .lit (.string s.data.toList)) rfl (by rw [f1]; rfl)) s.data.toList.length (by simp [DataW.weights])
      simpa [reachBytes] using h1'
    obtain ⟨vs, hr, hn, hw⟩ := vals_open Tryz.underlying28 h2 (hs.field Tryz.underlying30 (j := 2) rfl rfl)
    exact ⟨⟨ad, s.data.toList, vs⟩, ⟨c, by simp, hr, hn⟩, hw, hsz⟩
set_option maxRecDepth 100000 in
theorem batch_arg {base : Nat} {v : Value} {d : DataW H} {p : List MemPlace} (hv : Value.okWide Tryz.prog w .any base 22 v) (h : DataW.Trod enc Tryz.prog w 0 spare held 22 v d p) (hs : Sz Tryz.prog 22 d) :
    ∃ l : List Chg, ChgsAt w v l ∧ RangeB l ∧ (∀ c ∈ l, c.rel.length ≤ 140737488351232) ∧ l.length ≤ Rows.uptoBulk d ∧ l.length ≤ 2932031007402 := by
  have hb : Tryz.prog.bytesOf 30 = 48 := by kernel_rfl
  obtain ⟨a0, len, cap, rfl⟩ := okWide_slice Tryz.underlying22 hv
  obtain ⟨n, hn⟩ := h
  obtain ⟨rows, hr, hd⟩ := open_rows (sz := 3) (x := (d, p)) Tryz.underlying22 (by kernel_rfl) (by decide) (by simpa [Value.cells] using hn) (fun el sp e => by
    have e' : d = .slice el sp := e
    have hs' := hs
    rw [e'] at hs'
    have := hs'.len Tryz.underlying22
    rw [hb] at this
    omega)
  rcases hd with ⟨rfl, _⟩ | ⟨el, sp, e, hl, hi⟩
  · exact ⟨[], ⟨[], hr, trivial⟩, fun c hc => by simp at hc, by simp, Nat.zero_le _, Nat.zero_le _⟩
  · have e' : d = .slice el sp := e
    have hs' := hs
    rw [e'] at hs'
    have hse := fun d' (hd : d' ∈ el) => hs'.elem Tryz.underlying22 hd
    have hle := hs'.len Tryz.underlying22
    rw [hb, hl] at hle
    obtain ⟨al, hal⟩ := all2_of (fun (row : List Value) (a : {a : Chg // (∀ u ∈ a.row, RangeV u) ∧ a.rel.length ≤ 140737488351232}) => ChgC w row a.1) rows (fun row hrow => by
      obtain ⟨i, hi'⟩ := List.getElem?_of_mem hrow
      obtain ⟨_, n', d', Pl, hdi, hti⟩ := hi i row hi'
      obtain ⟨a, h1, h2, h3⟩ := chg_open hti (hse _ (List.mem_of_getElem? hdi))
      exact ⟨⟨a, h2, h3⟩, h1⟩)
    have h2 : All2 (ChgC w) rows (al.map (·.1)) := by
      clear hi hse hl hle hr
      induction rows generalizing al with
      | nil => cases al with
        | nil => trivial
        | cons _ _ => exact hal.elim
      | cons p z ih => cases al with
        | nil => exact hal.elim
        | cons a al => exact ⟨hal.1, ih al hal.2⟩
    have hll := h2.length
    have hbl := bulk_len el
    have hsub : rows.length ≤ Rows.uptoBulk d := by
      rw [e']
      simp only [Rows.uptoBulk]
      omega
    refine ⟨al.map (·.1), ⟨rows, hr, h2⟩, fun c hc => ?_, fun c hc => ?_, by omega, by omega⟩
    · obtain ⟨q, _, rfl⟩ := List.mem_map.1 hc
      exact q.2.1
    · obtain ⟨q, _, rfl⟩ := List.mem_map.1 hc
      exact q.2.2
end
end Go.Proofs.YtgjknekoehfdfaaGreatDoor
