/- Labels: contracts of the reference's Join, Meet. -/
import Derived.Test.YtcjnnonfnlemmaaDoorLabC
set_option linter.unusedVariables false
set_option linter.unusedSimpArgs false
namespace Go.Proofs.YtcjnnonfnlemmaaDoor
open Go.RowKit

/-- Behind c rounds: the lower bits are joined. -/
def orTo (a b o : Nat) (c : Nat) : Prop := o < 65536 ∧ ∀ j, o.testBit j = if j < c then (a.testBit j || b.testBit j) else a.testBit j
def andTo (a b o : Nat) (c : Nat) : Prop := o < 65536 ∧ ∀ j, o.testBit j = if j < c then (a.testBit j && b.testBit j) else a.testBit j
theorem orTo_zero {a b : Nat} (ha : a < 65536) : orTo a b a 0 := ⟨ha, fun j => by rw [if_neg (by omega)]⟩
theorem andTo_zero {a b : Nat} (ha : a < 65536) : andTo a b a 0 := ⟨ha, fun j => by rw [if_neg (by omega)]⟩
theorem orTo_end {a b o : Nat} (hb : b < 65536) (h : orTo a b o 16) : o = a ||| b := by
  apply Nat.eq_of_testBit_eq
  intro j
  rw [h.2 j, Nat.testBit_or]
  by_cases hj : j < 16
  · rw [if_pos hj]
  · rw [if_neg hj, bit_high hb (by omega), Bool.or_false]
theorem andTo_end {a b o : Nat} (ha : a < 65536) (h : andTo a b o 16) : o = a &&& b := by
  apply Nat.eq_of_testBit_eq
  intro j
  rw [h.2 j, Nat.testBit_and]
  by_cases hj : j < 16
  · rw [if_pos hj]
  · rw [if_neg hj, bit_high ha (by omega), Bool.false_and]
theorem orTo_same {a b o c : Nat} (h : orTo a b o c) (hs : b.testBit c = false ∨ o.testBit c = true) : orTo a b o (c + 1) := ⟨h.1, fun j => by
  rw [h.2 j]
  by_cases hj : j = c
  · subst hj
    have e := h.2 j
    rw [if_neg (by omega)] at e
    rw [if_neg (by omega), if_pos (by omega)]
    rcases hs with hs | hs
    · rw [hs, Bool.or_false]
    · rw [← e, hs]; rfl
  · by_cases hc : j < c
    · rw [if_pos hc, if_pos (by omega)]
    · rw [if_neg hc, if_neg (by omega)]⟩
theorem andTo_same {a b o c : Nat} (h : andTo a b o c) (hs : b.testBit c = true ∨ o.testBit c = false) : andTo a b o (c + 1) := ⟨h.1, fun j => by
  rw [h.2 j]
  by_cases hj : j = c
  · subst hj
    have e := h.2 j
    rw [if_neg (by omega)] at e
    rw [if_neg (by omega), if_pos (by omega)]
    rcases hs with hs | hs
    · rw [hs, Bool.and_true]
    · rw [← e, hs]; rfl
  · by_cases hc : j < c
    · rw [if_pos hc, if_pos (by omega)]
    · rw [if_neg hc, if_neg (by omega)]⟩
theorem pow16 {c : Nat} (hc : c < 16) : 2 ^ c ≤ 32768 ∧ 0 < 2 ^ c := ⟨(Nat.pow_le_pow_right (by omega) (by omega) : 2 ^ c ≤ 2 ^ 15), Nat.two_pow_pos c⟩
theorem orTo_add {a b o c : Nat} (h : orTo a b o c) (hc : c < 16) (hb : b.testBit c = true) (ho : o.testBit c = false) : o + 2 ^ c < 65536 ∧ orTo a b (o + 2 ^ c) (c + 1) := by
  have hlt : o + 2 ^ c < 65536 := by
    have : o + 2 ^ c < 2 ^ 16 := Nat.lt_pow_two_of_testBit _ (fun i hi => by
      rw [bit_add o c i ho, decide_eq_false (by omega), Bool.false_or]
      exact bit_high h.1 hi)
    omega
  refine ⟨hlt, hlt, fun j => ?_⟩
  rw [bit_add o c j ho]
  by_cases hj : j = c
  · subst hj; rw [if_pos (by omega)]; simp [hb]
  · rw [decide_eq_false hj, Bool.false_or, h.2 j]
    by_cases hc : j < c
    · rw [if_pos hc, if_pos (by omega)]
    · rw [if_neg hc, if_neg (by omega)]
theorem andTo_sub {a b o c : Nat} (h : andTo a b o c) (hc : c < 16) (hb : b.testBit c = false) (ho : o.testBit c = true) : 2 ^ c ≤ o ∧ andTo a b (o - 2 ^ c) (c + 1) := by
  refine ⟨(bit_sub o c c ho).1, Nat.lt_of_le_of_lt (Nat.sub_le _ _) h.1, fun j => ?_⟩
  rw [(bit_sub o c j ho).2]
  by_cases hj : j = c
  · subst hj; rw [if_pos (by omega)]; simp [hb]
  · rw [decide_eq_false hj, Bool.not_false, Bool.true_and, h.2 j]
    by_cases hc : j < c
    · rw [if_pos hc, if_pos (by omega)]
    · rw [if_neg hc, if_neg (by omega)]

set_option maxHeartbeats 8000000 in
theorem refJoin_any (v : Value) (ls : List (Nat × Nat)) (w : World) (hv : LS w v ls) (hn : ls.length ≤ 1000) :
    Calls Tryd.prog 19 #[v] w fun e w' => e = .returned (labV (joinAll ls)) ∧ Below w.heap.size w w' := by
  obtain ⟨A, cap, rfl, hlc, hcm⟩ := hv.sr.form
  have HV := Lib.hid hv
  clear hv
  go_enter Tryd.func19, Tryd.ntmps19
  go_wp2_with fail
  have g1 : ((w.alloc (.cells #[.int .u8 0, .int .u16 0] 25)).alloc (.cells #[.int .u8 0, .int .u16 0] 25)).rowIs (w.heap.size + 1) 25 2 (labRow (0, 0)) := by
    simpa using labRow_new (w.alloc (.cells #[.int .u8 0, .int .u16 0] 25)) 25 (0, 0)
  have g0 : ((w.alloc (.cells #[.int .u8 0, .int .u16 0] 25)).alloc (.cells #[.int .u8 0, .int .u16 0] 25)).rowIs w.heap.size 25 2 (labRow (0, 0)) := (labRow_new w 25 (0, 0)).alloc _
  have hb : Below w.heap.size w ((w.alloc (.cells #[.int .u8 0, .int .u16 0] 25)).alloc (.cells #[.int .u8 0, .int .u16 0] 25)) := bnewAfter (bnew _ _) _
  generalize (w.alloc (.cells #[.int .u8 0, .int .u16 0] 25)).alloc (.cells #[.int .u8 0, .int .u16 0] 25) = w1 at *
  obtain ⟨gO, hgO⟩ : ∃ g, g = w.heap.size + 1 := ⟨_, rfl⟩
  rw [← hgO] at g1 ⊢
  have hgO' : w.heap.size < gO := by omega
  clear hgO
  go_loopw [4] (fun v wr => ∃ k : Nat, k ≤ ls.length ∧ v = .int .i64 k ∧ wr.rowIs gO 25 2 (labRow ((ls.take k).foldl joinL (0, 0))) ∧ wr.rowIs w.heap.size 25 2 (labRow (0, 0)) ∧ Below w.heap.size w wr) (fun v _ => (ls.length - intOf v).toNat)
  case atStart => exact ⟨0, by omega, rfl, g1, g0, hb⟩
  case round =>
    obtain ⟨k, hk, rfl, hrow, h0, hbr⟩ := hrel
    clear g1 g0 hb
    have c30 := labRow0 hrow
    have c31 := labRow1 hrow
    have f3 := hrow.frozen
    have hl3 := hrow.lt
    by_cases hlt : k < ls.length
    · have hnx := foldl_next joinL (0, 0) ls k hlt
      have hpok := HV.out.wf ls[k] (List.getElem_mem hlt)
      have hook := foldl_ok (f := joinL) (fun a b ha hb => joinL_ok ha hb) (ls.take k) (0, 0) ⟨by simp, by simp⟩ (fun p hp => HV.out.wf p (List.mem_of_mem_take hp))
      rcases HV.out.cases with ⟨h, _⟩ | ⟨_, g, off, cap', hs, _, _, hg, hc⟩
      · rw [h] at hlt; simp at hlt
      cases hs
      obtain ⟨D0, D1⟩ := hc k hlt
      have hcell := (bcell hbr).1
      have d0 := (hcell g (off + k * 2) hg).trans D0
      have d1 := (hcell g (off + k * 2 + 1) hg).trans D1
      generalize ls[k] = p at *
      generalize (ls.take k).foldl joinL (0, 0) = o at *
      have hne : g ≠ gO := by omega
      have hor := bits_or_u16 o.2 p.2 hook.2 hpok.2
      have HR := Lib.hid hrow
      have H0 := Lib.hid h0
      have HN := Lib.hid hnx
      have hok1 := hook.1
      have hok2 := hpok.1
      clear hrow h0 hnx hc hcell
      obtain ⟨wo, hwo⟩ : ∃ wo, wo = wr := ⟨_, rfl⟩
      subst hwo
      by_cases hcmp : o.1 < p.1
      · have hcmp' : (o.1 : Int) < p.1 := by omega
        go_wp2_with fail
        go_region
        go_wp2_with fail
        have R2 : ((wo.setCell ⟨gO, 0, none⟩ (.int .u8 p.1)).drew).rowIs gO 25 2 (labRow (p.1, o.2)) := ((HR.out.set 0 _).congr (fun i hi => by
            have : i = 0 ∨ i = 1 := by omega
            rcases this with rfl | rfl <;> simp [labRow])).drew
        have Z2 : ((wo.setCell ⟨gO, 0, none⟩ (.int .u8 p.1)).drew).rowIs w.heap.size 25 2 (labRow (0, 0)) := (H0.out.of_block (Below.heap_setCell _ _ _ _ (by show w.heap.size ≠ gO; omega))).drew
        have B2 : Below w.heap.size w ((wo.setCell ⟨gO, 0, none⟩ (.int .u8 p.1)).drew) := bdrewN (hbr.setCell (Nat.le_of_lt hgO') _) 1
        clear HR H0
        generalize (wo.setCell ⟨gO, 0, none⟩ (.int .u8 p.1)).drew = w2 at *
        obtain ⟨m, hm⟩ : ∃ m, m = p.1 := ⟨_, rfl⟩
        rw [← hm] at R2
        have hmok : m ≤ 255 := by omega
        have HM := Lib.hid hm
        clear hm
        go_loopw [5] (fun v wr => ∃ c : Nat, c ≤ 16 ∧ v = .int .i64 c ∧ (∃ x, orTo o.2 p.2 x c ∧ wr.rowIs gO 25 2 (labRow (m, x))) ∧ wr.rowIs w.heap.size 25 2 (labRow (0, 0)) ∧ Below w.heap.size w wr) (fun v _ => (16 - intOf v).toNat)
        case atStart => exact ⟨0, by omega, rfl, ⟨o.2, orTo_zero hook.2, R2⟩, Z2, B2⟩
        case round =>
          clear R2 Z2 B2
          obtain ⟨c, hc, rfl, ⟨x, hx, hr⟩, hz, hB⟩ := hrel
          obtain ⟨wi, hwi⟩ : ∃ wi, wi = wr := ⟨_, rfl⟩
          subst hwi
          have hcell := (bcell hB).1
          have y0 := (hcell g (off + k * 2) hg).trans D0
          have y1 := (hcell g (off + k * 2 + 1) hg).trans D1
          have x0 := labRow0 hr
          have x1 := labRow1 hr
          clear hcell
          by_cases hc16 : c < 16
          · have hc16' : (c : Int) < 16 := by omega
            go_wp2_with fail
            go_at_call 29
            refine (refHas_any p hpok c hc16 _).mono ?_
            rintro e w3 ⟨he, hb3⟩; subst he
            have r3 := hr.of_block (hb3.block gO hr.lt)
            have z3 := hz.of_block (hb3.block w.heap.size hz.lt)
            have B3 := hB.trans (hb3.mono hB.size)
            have u0 := labRow0 r3
            have u1 := labRow1 r3
            have R3 := Lib.hid r3
            have Z3 := Lib.hid z3
            clear hr hz r3 z3
            cases hp : p.2.testBit c
            · go_wp2_with fail
              go_roundw
              case rel => exact ⟨c + 1, by omega, by go_num, ⟨x, orTo_same hx (.inl hp), R3.out⟩, Z3.out, B3⟩
              case measure => simp [intOf]; omega
            · go_wp2_with fail
              go_at_call 29
              refine (refHas_any (m, x) ⟨hmok, hx.1⟩ c hc16 _).mono ?_
              rintro e w4 ⟨he, hb4⟩; subst he
              have r4 := R3.out.of_block (hb4.block gO R3.out.lt)
              have z4 := Z3.out.of_block (hb4.block w.heap.size Z3.out.lt)
              have B4 := B3.trans (hb4.mono B3.size)
              have v0 := labRow0 r4
              have v1 := labRow1 r4
              have R4 := Lib.hid r4
              have Z4 := Lib.hid z4
              have f4 := r4.frozen
              have l4 := r4.lt
              clear r4 z4
              obtain ⟨hp1, hp2⟩ := pow16 hc16
              cases hxc : x.testBit c
              · obtain ⟨hlt16, hx'⟩ := orTo_add hx hc16 hp hxc
                go_wp2_with fail
                go_region
                have hx1 := hx.1
                have hv : IntKind.u16.wrap ((x : Int) + IntKind.u16.wrap (2 ^ c)) = ((x + 2 ^ c : Nat) : Int) := by
                  have h2 : (2 : Int) ^ c = ((2 ^ c : Nat) : Int) := by simp
                  rw [h2, IntKind.wrap_u16, IntKind.wrap_u16]
                  omega
                rw [hv]
                have R5 : ((w4.setCell ⟨gO, 1, none⟩ (.int .u16 ((x + 2 ^ c : Nat) : Int))).drew).rowIs gO 25 2 (labRow (m, x + 2 ^ c)) := ((R4.out.set 1 _).congr (fun i hi => by
                  have : i = 0 ∨ i = 1 := by omega
                  rcases this with rfl | rfl <;> simp [labRow])).drew
                have Z5 : ((w4.setCell ⟨gO, 1, none⟩ (.int .u16 ((x + 2 ^ c : Nat) : Int))).drew).rowIs w.heap.size 25 2 (labRow (0, 0)) := (Z4.out.of_block (Below.heap_setCell _ _ _ _ (by show w.heap.size ≠ gO; omega))).drew
                have B5 : Below w.heap.size w ((w4.setCell ⟨gO, 1, none⟩ (.int .u16 ((x + 2 ^ c : Nat) : Int))).drew) := bdrewN (B4.setCell (Nat.le_of_lt hgO') _) 1
                clear hv
                generalize (w4.setCell ⟨gO, 1, none⟩ (.int .u16 ((x + 2 ^ c : Nat) : Int))).drew = w5 at *
                go_wp2_with fail
                go_roundw
                case rel => exact ⟨c + 1, by omega, by go_num, ⟨x + 2 ^ c, hx', R5⟩, Z5, B5⟩
                case measure => simp [intOf]; omega
              · go_wp2_with fail
                go_roundw
                case rel => exact ⟨c + 1, by omega, by go_num, ⟨x, orTo_same hx (.inr hxc), R4.out⟩, Z4.out, B4⟩
                case measure => simp [intOf]; omega
          · obtain rfl : c = 16 := by omega
            have hxe := orTo_end hpok.2 hx
            go_wp2_with fail
            go_roundw
            case rel =>
              refine ⟨k + 1, by omega, by go_num, ?_, hz, hB⟩
              rw [HN.out, show joinL o p = (m, x) from Prod.ext (by show max o.1 p.1 = m; have := HM.out; omega) hxe.symm]
              exact hr
            case measure => simp [intOf]; omega
      · have hcmp' : ¬ ((o.1 : Int) < p.1) := by omega
        go_wp2_with fail
        go_region
        go_wp2_with fail
        have R2 : (wo.drew).rowIs gO 25 2 (labRow (o.1, o.2)) := HR.out.drew
        have Z2 : (wo.drew).rowIs w.heap.size 25 2 (labRow (0, 0)) := H0.out.drew
        have B2 : Below w.heap.size w (wo.drew) := bdrewN hbr 1
        clear HR H0
        generalize wo.drew = w2 at *
        obtain ⟨m, hm⟩ : ∃ m, m = o.1 := ⟨_, rfl⟩
        rw [← hm] at R2
        have hmok : m ≤ 255 := by omega
        have HM := Lib.hid hm
        clear hm
        go_loopw [5] (fun v wr => ∃ c : Nat, c ≤ 16 ∧ v = .int .i64 c ∧ (∃ x, orTo o.2 p.2 x c ∧ wr.rowIs gO 25 2 (labRow (m, x))) ∧ wr.rowIs w.heap.size 25 2 (labRow (0, 0)) ∧ Below w.heap.size w wr) (fun v _ => (16 - intOf v).toNat)
        case atStart => exact ⟨0, by omega, rfl, ⟨o.2, orTo_zero hook.2, R2⟩, Z2, B2⟩
        case round =>
          clear R2 Z2 B2
          obtain ⟨c, hc, rfl, ⟨x, hx, hr⟩, hz, hB⟩ := hrel
          obtain ⟨wi, hwi⟩ : ∃ wi, wi = wr := ⟨_, rfl⟩
          subst hwi
          have hcell := (bcell hB).1
          have y0 := (hcell g (off + k * 2) hg).trans D0
          have y1 := (hcell g (off + k * 2 + 1) hg).trans D1
          have x0 := labRow0 hr
          have x1 := labRow1 hr
          clear hcell
          by_cases hc16 : c < 16
          · have hc16' : (c : Int) < 16 := by omega
            go_wp2_with fail
            go_at_call 29
            refine (refHas_any p hpok c hc16 _).mono ?_
            rintro e w3 ⟨he, hb3⟩; subst he
            have r3 := hr.of_block (hb3.block gO hr.lt)
            have z3 := hz.of_block (hb3.block w.heap.size hz.lt)
            have B3 := hB.trans (hb3.mono hB.size)
            have u0 := labRow0 r3
            have u1 := labRow1 r3
            have R3 := Lib.hid r3
            have Z3 := Lib.hid z3
            clear hr hz r3 z3
            cases hp : p.2.testBit c
            · go_wp2_with fail
              go_roundw
              case rel => exact ⟨c + 1, by omega, by go_num, ⟨x, orTo_same hx (.inl hp), R3.out⟩, Z3.out, B3⟩
              case measure => simp [intOf]; omega
            · go_wp2_with fail
              go_at_call 29
              refine (refHas_any (m, x) ⟨hmok, hx.1⟩ c hc16 _).mono ?_
              rintro e w4 ⟨he, hb4⟩; subst he
              have r4 := R3.out.of_block (hb4.block gO R3.out.lt)
              have z4 := Z3.out.of_block (hb4.block w.heap.size Z3.out.lt)
              have B4 := B3.trans (hb4.mono B3.size)
              have v0 := labRow0 r4
              have v1 := labRow1 r4
              have R4 := Lib.hid r4
              have Z4 := Lib.hid z4
              have f4 := r4.frozen
              have l4 := r4.lt
              clear r4 z4
              obtain ⟨hp1, hp2⟩ := pow16 hc16
              cases hxc : x.testBit c
              · obtain ⟨hlt16, hx'⟩ := orTo_add hx hc16 hp hxc
                go_wp2_with fail
                go_region
                have hx1 := hx.1
                have hv : IntKind.u16.wrap ((x : Int) + IntKind.u16.wrap (2 ^ c)) = ((x + 2 ^ c : Nat) : Int) := by
                  have h2 : (2 : Int) ^ c = ((2 ^ c : Nat) : Int) := by simp
                  rw [h2, IntKind.wrap_u16, IntKind.wrap_u16]
                  omega
                rw [hv]
                have R5 : ((w4.setCell ⟨gO, 1, none⟩ (.int .u16 ((x + 2 ^ c : Nat) : Int))).drew).rowIs gO 25 2 (labRow (m, x + 2 ^ c)) := ((R4.out.set 1 _).congr (fun i hi => by
                  have : i = 0 ∨ i = 1 := by omega
                  rcases this with rfl | rfl <;> simp [labRow])).drew
                have Z5 : ((w4.setCell ⟨gO, 1, none⟩ (.int .u16 ((x + 2 ^ c : Nat) : Int))).drew).rowIs w.heap.size 25 2 (labRow (0, 0)) := (Z4.out.of_block (Below.heap_setCell _ _ _ _ (by show w.heap.size ≠ gO; omega))).drew
                have B5 : Below w.heap.size w ((w4.setCell ⟨gO, 1, none⟩ (.int .u16 ((x + 2 ^ c : Nat) : Int))).drew) := bdrewN (B4.setCell (Nat.le_of_lt hgO') _) 1
                clear hv
                generalize (w4.setCell ⟨gO, 1, none⟩ (.int .u16 ((x + 2 ^ c : Nat) : Int))).drew = w5 at *
                go_wp2_with fail
                go_roundw
                case rel => exact ⟨c + 1, by omega, by go_num, ⟨x + 2 ^ c, hx', R5⟩, Z5, B5⟩
                case measure => simp [intOf]; omega
              · go_wp2_with fail
                go_roundw
                case rel => exact ⟨c + 1, by omega, by go_num, ⟨x, orTo_same hx (.inr hxc), R4.out⟩, Z4.out, B4⟩
                case measure => simp [intOf]; omega
          · obtain rfl : c = 16 := by omega
            have hxe := orTo_end hpok.2 hx
            go_wp2_with fail
            go_roundw
            case rel =>
              refine ⟨k + 1, by omega, by go_num, ?_, hz, hB⟩
              rw [HN.out, show joinL o p = (m, x) from Prod.ext (by show max o.1 p.1 = m; have := HM.out; omega) hxe.symm]
              exact hr
            case measure => simp [intOf]; omega
    · have hfin : (ls.take k).foldl joinL (0, 0) = joinAll ls := by rw [List.take_of_length_le (by omega)]; rfl
      rw [hfin] at c30 c31
      have f0 := h0.frozen
      have e00 := labRow0 h0
      have e01 := labRow1 h0
      have H0 := Lib.hid h0
      clear hrow hfin h0
      go_wp2_with fail
      have hrun := lab_load (labRow_set H0.out (joinAll ls).1 (joinAll ls).2)
      exact bodyPost_ret (v := labV (joinAll ls)) (by simp [results, Tryd.results19, Act.put, asAddr, hrun]) rfl ⟨rfl, (hbr.setCell (Nat.le_refl _) _).setCell (Nat.le_refl _) _⟩

set_option maxHeartbeats 8000000 in
theorem refMeet_any (v : Value) (ls : List (Nat × Nat)) (w : World) (hv : LS w v ls) (hn : ls.length ≤ 1000) :
    Calls Tryd.prog 21 #[v] w fun e w' => e = .returned (labV (meetAll ls)) ∧ Below w.heap.size w w' := by
  obtain ⟨A, cap, rfl, hlc, hcm⟩ := hv.sr.form
  have HV := Lib.hid hv
  clear hv
  go_enter Tryd.func21, Tryd.ntmps21
  go_wp2_with fail
  have g1 : ((w.alloc (.cells #[.int .u8 0, .int .u16 0] 25)).alloc (.cells #[.int .u8 15, .int .u16 65535] 25)).rowIs (w.heap.size + 1) 25 2 (labRow (15, 65535)) := by
    simpa using labRow_new (w.alloc (.cells #[.int .u8 0, .int .u16 0] 25)) 25 (15, 65535)
  have g0 : ((w.alloc (.cells #[.int .u8 0, .int .u16 0] 25)).alloc (.cells #[.int .u8 15, .int .u16 65535] 25)).rowIs w.heap.size 25 2 (labRow (0, 0)) := (labRow_new w 25 (0, 0)).alloc _
  have hb : Below w.heap.size w ((w.alloc (.cells #[.int .u8 0, .int .u16 0] 25)).alloc (.cells #[.int .u8 15, .int .u16 65535] 25)) := bnewAfter (bnew _ _) _
  generalize (w.alloc (.cells #[.int .u8 0, .int .u16 0] 25)).alloc (.cells #[.int .u8 15, .int .u16 65535] 25) = w1 at *
  obtain ⟨gO, hgO⟩ : ∃ g, g = w.heap.size + 1 := ⟨_, rfl⟩
  rw [← hgO] at g1 ⊢
  have hgO' : w.heap.size < gO := by omega
  clear hgO
  go_loopw [4] (fun v wr => ∃ k : Nat, k ≤ ls.length ∧ v = .int .i64 k ∧ wr.rowIs gO 25 2 (labRow ((ls.take k).foldl meetL (15, 65535))) ∧ wr.rowIs w.heap.size 25 2 (labRow (0, 0)) ∧ Below w.heap.size w wr) (fun v _ => (ls.length - intOf v).toNat)
  case atStart => exact ⟨0, by omega, rfl, g1, g0, hb⟩
  case round =>
    obtain ⟨k, hk, rfl, hrow, h0, hbr⟩ := hrel
    clear g1 g0 hb
    have c30 := labRow0 hrow
    have c31 := labRow1 hrow
    have f3 := hrow.frozen
    have hl3 := hrow.lt
    by_cases hlt : k < ls.length
    · have hnx := foldl_next meetL (15, 65535) ls k hlt
      have hpok := HV.out.wf ls[k] (List.getElem_mem hlt)
      have hook := foldl_ok (f := meetL) (fun a b ha hb => meetL_ok ha) (ls.take k) (15, 65535) ⟨by simp, by simp⟩ (fun p hp => HV.out.wf p (List.mem_of_mem_take hp))
      rcases HV.out.cases with ⟨h, _⟩ | ⟨_, g, off, cap', hs, _, _, hg, hc⟩
      · rw [h] at hlt; simp at hlt
      cases hs
      obtain ⟨D0, D1⟩ := hc k hlt
      have hcell := (bcell hbr).1
      have d0 := (hcell g (off + k * 2) hg).trans D0
      have d1 := (hcell g (off + k * 2 + 1) hg).trans D1
      generalize ls[k] = p at *
      generalize (ls.take k).foldl meetL (15, 65535) = o at *
      have hne : g ≠ gO := by omega
      have hor := bits_and_u16 o.2 p.2 hook.2 hpok.2
      have HR := Lib.hid hrow
      have H0 := Lib.hid h0
      have HN := Lib.hid hnx
      have hok1 := hook.1
      have hok2 := hpok.1
      clear hrow h0 hnx hc hcell
      obtain ⟨wo, hwo⟩ : ∃ wo, wo = wr := ⟨_, rfl⟩
      subst hwo
      by_cases hcmp : p.1 < o.1
      · have hcmp' : (p.1 : Int) < o.1 := by omega
        go_wp2_with fail
        go_region
        go_wp2_with fail
        have R2 : ((wo.setCell ⟨gO, 0, none⟩ (.int .u8 p.1)).drew).rowIs gO 25 2 (labRow (p.1, o.2)) := ((HR.out.set 0 _).congr (fun i hi => by
            have : i = 0 ∨ i = 1 := by omega
            rcases this with rfl | rfl <;> simp [labRow])).drew
        have Z2 : ((wo.setCell ⟨gO, 0, none⟩ (.int .u8 p.1)).drew).rowIs w.heap.size 25 2 (labRow (0, 0)) := (H0.out.of_block (Below.heap_setCell _ _ _ _ (by show w.heap.size ≠ gO; omega))).drew
        have B2 : Below w.heap.size w ((wo.setCell ⟨gO, 0, none⟩ (.int .u8 p.1)).drew) := bdrewN (hbr.setCell (Nat.le_of_lt hgO') _) 1
        clear HR H0
        generalize (wo.setCell ⟨gO, 0, none⟩ (.int .u8 p.1)).drew = w2 at *
        obtain ⟨m, hm⟩ : ∃ m, m = p.1 := ⟨_, rfl⟩
        rw [← hm] at R2
        have hmok : m ≤ 255 := by omega
        have HM := Lib.hid hm
        clear hm
        go_loopw [5] (fun v wr => ∃ c : Nat, c ≤ 16 ∧ v = .int .i64 c ∧ (∃ x, andTo o.2 p.2 x c ∧ wr.rowIs gO 25 2 (labRow (m, x))) ∧ wr.rowIs w.heap.size 25 2 (labRow (0, 0)) ∧ Below w.heap.size w wr) (fun v _ => (16 - intOf v).toNat)
        case atStart => exact ⟨0, by omega, rfl, ⟨o.2, andTo_zero hook.2, R2⟩, Z2, B2⟩
        case round =>
          clear R2 Z2 B2
          obtain ⟨c, hc, rfl, ⟨x, hx, hr⟩, hz, hB⟩ := hrel
          obtain ⟨wi, hwi⟩ : ∃ wi, wi = wr := ⟨_, rfl⟩
          subst hwi
          have hcell := (bcell hB).1
          have y0 := (hcell g (off + k * 2) hg).trans D0
          have y1 := (hcell g (off + k * 2 + 1) hg).trans D1
          have x0 := labRow0 hr
          have x1 := labRow1 hr
          clear hcell
          by_cases hc16 : c < 16
          · have hc16' : (c : Int) < 16 := by omega
            go_wp2_with fail
            go_at_call 29
            refine (refHas_any p hpok c hc16 _).mono ?_
            rintro e w3 ⟨he, hb3⟩; subst he
            have r3 := hr.of_block (hb3.block gO hr.lt)
            have z3 := hz.of_block (hb3.block w.heap.size hz.lt)
            have B3 := hB.trans (hb3.mono hB.size)
            have u0 := labRow0 r3
            have u1 := labRow1 r3
            have R3 := Lib.hid r3
            have Z3 := Lib.hid z3
            clear hr hz r3 z3
            cases hp : p.2.testBit c
            rotate_left
            · go_wp2_with fail
              go_roundw
              case rel => exact ⟨c + 1, by omega, by go_num, ⟨x, andTo_same hx (.inl hp), R3.out⟩, Z3.out, B3⟩
              case measure => simp [intOf]; omega
            · go_wp2_with fail
              go_at_call 29
              refine (refHas_any (m, x) ⟨hmok, hx.1⟩ c hc16 _).mono ?_
              rintro e w4 ⟨he, hb4⟩; subst he
              have r4 := R3.out.of_block (hb4.block gO R3.out.lt)
              have z4 := Z3.out.of_block (hb4.block w.heap.size Z3.out.lt)
              have B4 := B3.trans (hb4.mono B3.size)
              have v0 := labRow0 r4
              have v1 := labRow1 r4
              have R4 := Lib.hid r4
              have Z4 := Lib.hid z4
              have f4 := r4.frozen
              have l4 := r4.lt
              clear r4 z4
              obtain ⟨hp1, hp2⟩ := pow16 hc16
              cases hxc : x.testBit c
              rotate_left
              · obtain ⟨hlt16, hx'⟩ := andTo_sub hx hc16 hp hxc
                go_wp2_with fail
                go_region
                have hx1 := hx.1
                have hv : IntKind.u16.wrap ((x : Int) - IntKind.u16.wrap (2 ^ c)) = ((x - 2 ^ c : Nat) : Int) := by
                  have h2 : (2 : Int) ^ c = ((2 ^ c : Nat) : Int) := by simp
                  rw [h2, IntKind.wrap_u16, IntKind.wrap_u16]
                  omega
                rw [hv]
                have R5 : ((w4.setCell ⟨gO, 1, none⟩ (.int .u16 ((x - 2 ^ c : Nat) : Int))).drew).rowIs gO 25 2 (labRow (m, x - 2 ^ c)) := ((R4.out.set 1 _).congr (fun i hi => by
                  have : i = 0 ∨ i = 1 := by omega
                  rcases this with rfl | rfl <;> simp [labRow])).drew
                have Z5 : ((w4.setCell ⟨gO, 1, none⟩ (.int .u16 ((x - 2 ^ c : Nat) : Int))).drew).rowIs w.heap.size 25 2 (labRow (0, 0)) := (Z4.out.of_block (Below.heap_setCell _ _ _ _ (by show w.heap.size ≠ gO; omega))).drew
                have B5 : Below w.heap.size w ((w4.setCell ⟨gO, 1, none⟩ (.int .u16 ((x - 2 ^ c : Nat) : Int))).drew) := bdrewN (B4.setCell (Nat.le_of_lt hgO') _) 1
                clear hv
                generalize (w4.setCell ⟨gO, 1, none⟩ (.int .u16 ((x - 2 ^ c : Nat) : Int))).drew = w5 at *
                go_wp2_with fail
                go_roundw
                case rel => exact ⟨c + 1, by omega, by go_num, ⟨x - 2 ^ c, hx', R5⟩, Z5, B5⟩
                case measure => simp [intOf]; omega
              · go_wp2_with fail
                go_roundw
                case rel => exact ⟨c + 1, by omega, by go_num, ⟨x, andTo_same hx (.inr hxc), R4.out⟩, Z4.out, B4⟩
                case measure => simp [intOf]; omega
          · obtain rfl : c = 16 := by omega
            have hxe := andTo_end hook.2 hx
            go_wp2_with fail
            go_roundw
            case rel =>
              refine ⟨k + 1, by omega, by go_num, ?_, hz, hB⟩
              rw [HN.out, show meetL o p = (m, x) from Prod.ext (by show min o.1 p.1 = m; have := HM.out; omega) hxe.symm]
              exact hr
            case measure => simp [intOf]; omega
      · have hcmp' : ¬ ((p.1 : Int) < o.1) := by omega
        go_wp2_with fail
        go_region
        go_wp2_with fail
        have R2 : (wo.drew).rowIs gO 25 2 (labRow (o.1, o.2)) := HR.out.drew
        have Z2 : (wo.drew).rowIs w.heap.size 25 2 (labRow (0, 0)) := H0.out.drew
        have B2 : Below w.heap.size w (wo.drew) := bdrewN hbr 1
        clear HR H0
        generalize wo.drew = w2 at *
        obtain ⟨m, hm⟩ : ∃ m, m = o.1 := ⟨_, rfl⟩
        rw [← hm] at R2
        have hmok : m ≤ 255 := by omega
        have HM := Lib.hid hm
        clear hm
        go_loopw [5] (fun v wr => ∃ c : Nat, c ≤ 16 ∧ v = .int .i64 c ∧ (∃ x, andTo o.2 p.2 x c ∧ wr.rowIs gO 25 2 (labRow (m, x))) ∧ wr.rowIs w.heap.size 25 2 (labRow (0, 0)) ∧ Below w.heap.size w wr) (fun v _ => (16 - intOf v).toNat)
        case atStart => exact ⟨0, by omega, rfl, ⟨o.2, andTo_zero hook.2, R2⟩, Z2, B2⟩
        case round =>
          clear R2 Z2 B2
          obtain ⟨c, hc, rfl, ⟨x, hx, hr⟩, hz, hB⟩ := hrel
          obtain ⟨wi, hwi⟩ : ∃ wi, wi = wr := ⟨_, rfl⟩
          subst hwi
          have hcell := (bcell hB).1
          have y0 := (hcell g (off + k * 2) hg).trans D0
          have y1 := (hcell g (off + k * 2 + 1) hg).trans D1
          have x0 := labRow0 hr
          have x1 := labRow1 hr
          clear hcell
          by_cases hc16 : c < 16
          · have hc16' : (c : Int) < 16 := by omega
            go_wp2_with fail
            go_at_call 29
            refine (refHas_any p hpok c hc16 _).mono ?_
            rintro e w3 ⟨he, hb3⟩; subst he
            have r3 := hr.of_block (hb3.block gO hr.lt)
            have z3 := hz.of_block (hb3.block w.heap.size hz.lt)
            have B3 := hB.trans (hb3.mono hB.size)
            have u0 := labRow0 r3
            have u1 := labRow1 r3
            have R3 := Lib.hid r3
            have Z3 := Lib.hid z3
            clear hr hz r3 z3
            cases hp : p.2.testBit c
            rotate_left
            · go_wp2_with fail
              go_roundw
              case rel => exact ⟨c + 1, by omega, by go_num, ⟨x, andTo_same hx (.inl hp), R3.out⟩, Z3.out, B3⟩
              case measure => simp [intOf]; omega
            · go_wp2_with fail
              go_at_call 29
              refine (refHas_any (m, x) ⟨hmok, hx.1⟩ c hc16 _).mono ?_
              rintro e w4 ⟨he, hb4⟩; subst he
              have r4 := R3.out.of_block (hb4.block gO R3.out.lt)
              have z4 := Z3.out.of_block (hb4.block w.heap.size Z3.out.lt)
              have B4 := B3.trans (hb4.mono B3.size)
              have v0 := labRow0 r4
              have v1 := labRow1 r4
              have R4 := Lib.hid r4
              have Z4 := Lib.hid z4
              have f4 := r4.frozen
              have l4 := r4.lt
              clear r4 z4
              obtain ⟨hp1, hp2⟩ := pow16 hc16
              cases hxc : x.testBit c
              rotate_left
              · obtain ⟨hlt16, hx'⟩ := andTo_sub hx hc16 hp hxc
                go_wp2_with fail
                go_region
                have hx1 := hx.1
                have hv : IntKind.u16.wrap ((x : Int) - IntKind.u16.wrap (2 ^ c)) = ((x - 2 ^ c : Nat) : Int) := by
                  have h2 : (2 : Int) ^ c = ((2 ^ c : Nat) : Int) := by simp
                  rw [h2, IntKind.wrap_u16, IntKind.wrap_u16]
                  omega
                rw [hv]
                have R5 : ((w4.setCell ⟨gO, 1, none⟩ (.int .u16 ((x - 2 ^ c : Nat) : Int))).drew).rowIs gO 25 2 (labRow (m, x - 2 ^ c)) := ((R4.out.set 1 _).congr (fun i hi => by
                  have : i = 0 ∨ i = 1 := by omega
                  rcases this with rfl | rfl <;> simp [labRow])).drew
                have Z5 : ((w4.setCell ⟨gO, 1, none⟩ (.int .u16 ((x - 2 ^ c : Nat) : Int))).drew).rowIs w.heap.size 25 2 (labRow (0, 0)) := (Z4.out.of_block (Below.heap_setCell _ _ _ _ (by show w.heap.size ≠ gO; omega))).drew
                have B5 : Below w.heap.size w ((w4.setCell ⟨gO, 1, none⟩ (.int .u16 ((x - 2 ^ c : Nat) : Int))).drew) := bdrewN (B4.setCell (Nat.le_of_lt hgO') _) 1
                clear hv
                generalize (w4.setCell ⟨gO, 1, none⟩ (.int .u16 ((x - 2 ^ c : Nat) : Int))).drew = w5 at *
                go_wp2_with fail
                go_roundw
                case rel => exact ⟨c + 1, by omega, by go_num, ⟨x - 2 ^ c, hx', R5⟩, Z5, B5⟩
                case measure => simp [intOf]; omega
              · go_wp2_with fail
                go_roundw
                case rel => exact ⟨c + 1, by omega, by go_num, ⟨x, andTo_same hx (.inr hxc), R4.out⟩, Z4.out, B4⟩
                case measure => simp [intOf]; omega
          · obtain rfl : c = 16 := by omega
            have hxe := andTo_end hook.2 hx
            go_wp2_with fail
            go_roundw
            case rel =>
              refine ⟨k + 1, by omega, by go_num, ?_, hz, hB⟩
              rw [HN.out, show meetL o p = (m, x) from Prod.ext (by show min o.1 p.1 = m; have := HM.out; omega) hxe.symm]
              exact hr
            case measure => simp [intOf]; omega
    · have hfin : (ls.take k).foldl meetL (15, 65535) = meetAll ls := by rw [List.take_of_length_le (by omega)]; rfl
      rw [hfin] at c30 c31
      have f0 := h0.frozen
      have e00 := labRow0 h0
      have e01 := labRow1 h0
      have H0 := Lib.hid h0
      clear hrow hfin h0
      go_wp2_with fail
      have hrun := lab_load (labRow_set H0.out (meetAll ls).1 (meetAll ls).2)
      exact bodyPost_ret (v := labV (meetAll ls)) (by simp [results, Tryd.results21, Act.put, asAddr, hrun]) rfl ⟨rfl, (hbr.setCell (Nat.le_refl _) _).setCell (Nat.le_refl _) _⟩
end Go.Proofs.YtcjnnonfnlemmaaDoor
