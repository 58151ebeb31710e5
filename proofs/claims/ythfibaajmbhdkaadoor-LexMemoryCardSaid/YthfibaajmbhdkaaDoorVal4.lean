/- value.scanNumber, walked. -/
import Derived.Test.YthfibaajmbhdkaaDoorVal3
import Derived.Test.YthfibaajmbhdkaaDoorShelf
import Derived.WalkSmall
import Derived.Lib.AtoiErrMem
namespace Go.Proofs.YthfibaajmbhdkaaDoor
open Go.RowKit
set_option linter.unusedVariables false

/-- What a call may lean on of the library's variables. -/
structure Glob (w : World) : Prop where
  syn : ∃ tp p, w.var? Tryd.prog "strconv.ErrSyntax" = some #[.iface tp p]
  rng : ∃ tp p, w.var? Tryd.prog "strconv.ErrRange" = some #[.iface tp p]
  tab : Lib.TabIs Tryd.prog w "internal/strconv.uint64pow10" .u64 Lib.pow10Tab
  many : 6 ≤ w.heap.size

theorem Glob.below {w w' : World} (h : Glob w) (hb : Below w.heap.size w w') : Glob w' := by
  have hm := h.many
  obtain ⟨tp, p, h1⟩ := h.syn
  obtain ⟨tq, q, h2⟩ := h.rng
  exact ⟨⟨tp, p, var?_below hb (g := 2) (by kernel_rfl) (by omega) h1⟩, ⟨tq, q, var?_below hb (g := 3) (by kernel_rfl) (by omega) h2⟩,
    var?_below hb (g := 1) (by kernel_rfl) (by omega) h.tab, Nat.le_trans hm hb.size⟩

/-- How many digits a text begins with. -/
def digs (l : List UInt8) : Nat := (l.takeWhile fun c => digB c.toNat).length

theorem digs_nil : digs [] = 0 := rfl
theorem digs_step {l : List UInt8} {k : Nat} (hk : k < l.length) (hd : digB (bt l k) = true) : digs (l.drop k) = 1 + digs (l.drop (k + 1)) := by
  unfold digs
  rw [List.drop_eq_getElem_cons hk]
  have : digB (l[k].toNat : Int) = true := by
    have e : bt l k = (l[k].toNat : Int) := by simp [bt, hk]
    rw [← e]; exact hd
  rw [List.takeWhile_cons, if_pos this, List.length_cons]
  omega
theorem digs_stop {l : List UInt8} {k : Nat} (hk : k < l.length) (hd : digB (bt l k) = false) : digs (l.drop k) = 0 := by
  unfold digs
  rw [List.drop_eq_getElem_cons hk]
  have : ¬ digB (l[k].toNat : Int) = true := by
    have e : bt l k = (l[k].toNat : Int) := by simp [bt, hk]
    rw [← e, hd]; simp
  rw [List.takeWhile_cons, if_neg this]
  rfl
theorem digs_le (l : List UInt8) : digs l ≤ l.length := by
  unfold digs
  induction l with
  | nil => simp
  | cons a l ih =>
    rw [List.takeWhile_cons]
    split
    · simp; exact ih
    · simp

/-- The number's text. -/
def numTok (l : List UInt8) (a : Nat) : List UInt8 := (l.drop a).take (1 + digs (l.drop (a + 1)))

def numR (l : List UInt8) (a : Nat) : Res :=
  if bt (Lib.trimPrefix (numTok l a) [45]) 0 = 48 ∧ 1 < (numTok l a).length then bad 12
  else match Lib.parseIntB 64 (numTok l a) with
    | .ok v => ⟨1, v, [], a + (numTok l a).length, 0⟩
    | _ => bad 12

theorem numTok_len {l : List UInt8} {a : Nat} (h : a < l.length) : (numTok l a).length = 1 + digs (l.drop (a + 1)) := by
  have := digs_le (l.drop (a + 1))
  rw [List.length_drop] at this
  unfold numTok
  rw [List.length_take, List.length_drop]
  omega

set_option maxHeartbeats 4000000 in
set_option maxRecDepth 100000 in
theorem scanNumber_any (s : ByteArray) (a : Nat) (w : World) (ha : a < s.size) (hs : s.size ≤ 281474976710656) (hne : Lib.trimPrefix (numTok s.data.toList a) [45] ≠ []) (hg : Glob w) :
    Calls Tryd.prog 49 #[.string s, .int .i64 a] w fun e w' => e = .returned (numR s.data.toList a).v ∧ Below w.heap.size w w' := by
  have hsl : s.data.toList.length = s.size := rfl
  have HSL := Lib.hid hsl
  clear hsl
  generalize hL : s.data.toList = l at *
  have HL := Lib.hid hL
  have HNE := Lib.hid hne
  have HG := Lib.hid hg
  clear hL hne hg
  go_enter Tryd.func49, Tryd.ntmps49
  go_wp2_with fail
  go_loop [7] (fun ix => ∃ (k : Nat), a + 1 ≤ k ∧ k ≤ s.size ∧ ix = .int .i64 k ∧ digs (l.drop (a + 1)) + (a + 1) = k + digs (l.drop k)) (fun ix => s.size - (intOf ix).toNat)
  case atStart =>
    exact ⟨a + 1, Nat.le_refl _, ha, rfl, by omega⟩
  case round =>
    obtain ⟨k, hak, hk, rfl, hrel⟩ := hrel
    have HR := Lib.hid hrel
    clear hrel
    by_cases hc : k < s.size ∧ digB (bt l k) = true
    · obtain ⟨hlt, hd⟩ := hc
      have hbt := bt_of s k hlt
      rw [HL.out] at hbt
      have hkl : k < l.length := by have := HSL.out; omega
      have hst := digs_step hkl hd
      have HST := Lib.hid hst
      have hd' : digB ((s[k]'hlt).toNat : Int) = true := by rw [hbt]; exact hd
      clear hst hbt hd
      go_wp2_with (go_at_call 48; refine (isDigit_any _ _).mono ?_; rintro e w' ⟨rfl, rfl⟩)
      go_round
      case rel => exact ⟨k + 1, by omega, by omega, by go_num, by have := HST.out; have := HR.out; omega⟩
      case measure => simp [intOf]; omega
    · have hend : digs (l.drop k) = 0 := by
        by_cases hlt : k < s.size
        · exact digs_stop (by have := HSL.out; omega) (by simpa using fun h => hc ⟨hlt, h⟩)
        · rw [List.drop_of_length_le (by have := HSL.out; omega)]; rfl
      have htok : (s.extract a k).data.toList = numTok l a := by
        rw [Lib.extract_data, HL.out]
        unfold numTok
        congr 1
        have := HR.out
        omega
      have hlen : (numTok l a).length = k - a := by
        have := numTok_len (l := l) (a := a) (by have := HSL.out; omega)
        have := HR.out
        omega
      have htp := Tryd.strings_TrimPrefix (s.extract a k) ⟨#[45]⟩ (w.alloc (.cells #[.int .i64 0, .int .i64 0, .string ⟨#[]⟩] 35))
      rw [htok] at htp
      have HT := Lib.hid htok
      have HLN := Lib.hid hlen
      have HTP := Lib.hid htp
      clear htok hlen htp hend
      have r0 : (w.alloc (.cells #[.int .i64 0, .int .i64 0, .string ⟨#[]⟩] 35)).cell? ⟨w.heap.size, 0, none⟩ = some (.int .i64 0) := by simp
      have hb0 : Below w.heap.size w (w.alloc (.cells #[.int .i64 0, .int .i64 0, .string ⟨#[]⟩] 35)) := balloc (Below.refl _ _) _
      have hB0 : Blk (w.alloc (.cells #[.int .i64 0, .int .i64 0, .string ⟨#[]⟩] 35)) w.heap.size 35 #[.int .i64 0, .int .i64 0, .string ⟨#[]⟩] := Blk.new _ _ _
      have HB := Lib.hid (And.intro hb0 hB0)
      clear r0 hb0 hB0
      by_cases hlt : k < s.size
      case' pos =>
        have hd' : digB ((s[k]'hlt).toNat : Int) = false := by
          rw [bt_of s k hlt, HL.out]
          simpa using fun h => hc ⟨hlt, h⟩
        have HC := Lib.hid hc
        clear hc
        go_wp2_with (go_at_call 48; refine (isDigit_any _ _).mono ?_; rintro e w' ⟨rfl, rfl⟩)
      case' neg =>
        have HC := Lib.hid hc
        clear hc
        go_wp2_with fail
      all_goals
        refine HTP.out.mono ?_
        rintro e w1 ⟨rfl, rfl⟩
        generalize hd : (⟨(Lib.trimPrefix (numTok l a) [45]).toArray⟩ : ByteArray) = d
        have hdl : d.data.toList = Lib.trimPrefix (numTok l a) [45] := by rw [← hd]
        have h0 : 0 < d.size := by
          rw [Lib.size_eq, hdl]
          exact List.length_pos_iff.2 HNE.out
        have hb := bt_of d 0 h0
        rw [hdl] at hb
        have HD := Lib.hid hdl
        have HN : Hid (numR l a = if bt (Lib.trimPrefix (numTok l a) [45]) 0 = 48 ∧ 1 < k - a then bad 12 else match Lib.parseIntB 64 (numTok l a) with | .ok v => ⟨1, v, [], k, 0⟩ | _ => bad 12) := Lib.hid <| by
          have hl2 := HLN.out
          unfold numR
          rw [hl2]
          have : (a : Int) + ((k - a : Nat) : Int) = k := by omega
          rw [this]
        clear hd hdl
        generalize hbb : bt (Lib.trimPrefix (numTok l a) [45]) 0 = b0 at *
        clear hbb
        by_cases hz : b0 = 48 ∧ 1 < k - a
        · have HE : Hid (numR l a = bad 12) := Lib.hid (by rw [HN.out, if_pos hz])
          obtain ⟨hz1, hz2⟩ := hz
          have q1 : (b0 == 48) = true := by simpa using hz1
          have q2 : (1 : Int) < (k : Int) - a := by omega
          clear hz1 hz2
          go_wp2_with fail
          refine bodyPost_ret (v := (bad 12).v) (by simp [results, Tryd.results49, go_sem, *]; rfl) rfl ⟨by rw [HE.out], ?_⟩
          have hb3 := bstore3 HB.out.1 (.int .i64 0) (.int .i64 0) (.string ⟨#[]⟩)
          simpa [go_sem] using hb3
        · have q1 : (b0 == 48) = false ∨ ((b0 == 48) = true ∧ (k : Int) - a ≤ 1) := by
            by_cases h48 : b0 = 48
            · right; exact ⟨by simpa using h48, by have : ¬ 1 < k - a := fun h => hz ⟨h48, h⟩; omega⟩
            · left; simpa using h48
          cases hp : Lib.parseIntB 64 (numTok l a) with
          | ok v =>
            have HE : Hid (numR l a = ⟨1, v, [], k, 0⟩) := Lib.hid (by rw [HN.out, if_neg hz, hp])
            have hpc := Tryd.strconv_ParseInt_10_at64_ok (s.extract a k) (by rw [Lib.size_eq, HT.out, HLN.out]; omega) v (by rw [HT.out]; exact hp)
            have HPC := Lib.hid hpc
            clear hp hpc hz
            rcases q1 with q1 | ⟨q1, q2⟩
            all_goals
              go_wp2_with fail
              refine (HPC.out _).mono ?_
              rintro e w2 ⟨rfl, hw⟩
              have hb2 : Below (w.alloc (.cells #[.int .i64 0, .int .i64 0, .string ⟨#[]⟩] 35)).heap.size (w.alloc (.cells #[.int .i64 0, .int .i64 0, .string ⟨#[]⟩] 35)) w2 := by
                rcases hw with rfl | ⟨t, rfl⟩
                · exact Below.refl _ _
                · exact Lib.bytesWorld_below _ _ _
              have hb3 : Below w.heap.size w w2 := HB.out.1.trans (hb2.mono (by simp))
              have hblk := HB.out.2.below hb2 (by simp)
              have c0 := hblk.cell 0
              have c1 := hblk.cell 1
              have c2 := hblk.cell 2
              have z0 := hblk.frozen 0
              have z1 := hblk.frozen 1
              have z2 := hblk.frozen 2
              simp at c0 c1 c2
              clear hw hb2 hblk
              go_wp2_with fail
              refine bodyPost_ret (v := (⟨1, v, [], k, 0⟩ : Res).v) (by simp [results, Tryd.results49, go_sem, *]; rfl) rfl ⟨by rw [HE.out], ?_⟩
              exact bstore3 hb3 _ _ _
          | range =>
            have HE : Hid (numR l a = bad 12) := Lib.hid (by rw [HN.out, if_neg hz, hp])
            obtain ⟨tp, pv, hv⟩ := (HG.out.below (w' := w.alloc (.cells #[.int .i64 0, .int .i64 0, .string ⟨#[]⟩] 35)) HB.out.1).rng
            have hpc := Tryd.strconv_ParseInt_10_at64_range_var (s.extract a k) (by rw [Lib.size_eq, HT.out, HLN.out]; omega) (by rw [HT.out]; exact hp) tp pv _ hv
            have HPC := Lib.hid hpc
            clear hp hpc hz hv
            rcases q1 with q1 | ⟨q1, q2⟩
            all_goals
              go_wp2_with fail
              refine HPC.out.mono ?_
              rintro e w2 ⟨N, rfl, _, _, hb2⟩
              have hb3 : Below w.heap.size w w2 := HB.out.1.trans (hb2.mono (by simp))
              have hblk := HB.out.2.below hb2 (by simp)
              have c0 := hblk.cell 0
              have c1 := hblk.cell 1
              have c2 := hblk.cell 2
              have z0 := hblk.frozen 0
              have z1 := hblk.frozen 1
              have z2 := hblk.frozen 2
              simp at c0 c1 c2
              clear hb2 hblk
              go_wp2_with fail
              refine bodyPost_ret (v := (bad 12).v) (by simp [results, Tryd.results49, go_sem, *]; rfl) rfl ⟨by rw [HE.out], ?_⟩
              exact bstore3 hb3 _ _ _
          | _ =>
            have HE : Hid (numR l a = bad 12) := Lib.hid (by rw [HN.out, if_neg hz, hp])
            obtain ⟨tp, pv, hv⟩ := (HG.out.below (w' := w.alloc (.cells #[.int .i64 0, .int .i64 0, .string ⟨#[]⟩] 35)) HB.out.1).syn
            have hpc := Any.strconv_ParseInt_10_at64_syntax_var Tryd.laysC174 (s.extract a k) (by rw [Lib.size_eq, HT.out, HLN.out]; omega) (by rw [HT.out]; exact hp) tp pv _ hv
            have HPC := Lib.hid hpc
            clear hp hpc hz hv
            rcases q1 with q1 | ⟨q1, q2⟩
            all_goals
              go_wp2_with fail
              refine HPC.out.mono ?_
              rintro e w2 ⟨N, rfl, _, _, hb2⟩
              have hb3 : Below w.heap.size w w2 := HB.out.1.trans (hb2.mono (by simp))
              have hblk := HB.out.2.below hb2 (by simp)
              have c0 := hblk.cell 0
              have c1 := hblk.cell 1
              have c2 := hblk.cell 2
              have z0 := hblk.frozen 0
              have z1 := hblk.frozen 1
              have z2 := hblk.frozen 2
              simp at c0 c1 c2
              clear hb2 hblk
              go_wp2_with fail
              refine bodyPost_ret (v := (bad 12).v) (by simp [results, Tryd.results49, go_sem, *]; rfl) rfl ⟨by rw [HE.out], ?_⟩
              exact bstore3 hb3 _ _ _
end Go.Proofs.YthfibaajmbhdkaaDoor
