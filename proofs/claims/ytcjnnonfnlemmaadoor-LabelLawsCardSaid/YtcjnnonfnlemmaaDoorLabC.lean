/- Labels: contracts of Join, Meet, Top. -/
import Derived.Test.YtcjnnonfnlemmaaDoorLabB
import Derived.Test.YtcjnnonfnlemmaaDoorPc
import Derived.BigRegion
set_option linter.unusedVariables false
set_option linter.unusedSimpArgs false
namespace Go.Proofs.YtcjnnonfnlemmaaDoor
open Go.RowKit

def joinAll (ls : List (Nat × Nat)) : Nat × Nat := ls.foldl joinL (0, 0)
def meetAll (ls : List (Nat × Nat)) : Nat × Nat := ls.foldl meetL (15, 65535)
theorem foldl_next {α β : Type} (f : β → α → β) (z : β) (ls : List α) (k : Nat) (hk : k < ls.length) : (ls.take (k + 1)).foldl f z = f ((ls.take k).foldl f z) ls[k] := by
  rw [List.take_add_one, List.getElem?_eq_getElem hk, List.foldl_append]
  rfl
theorem foldl_ok {f : Nat × Nat → Nat × Nat → Nat × Nat} (hf : ∀ a b, okL a → okL b → okL (f a b)) : ∀ (ls : List (Nat × Nat)) (z : Nat × Nat), okL z → (∀ p ∈ ls, okL p) → okL (ls.foldl f z)
  | [], z, hz, _ => hz
  | p :: ls, z, hz, h => foldl_ok hf ls (f z p) (hf z p hz (h p (by simp))) (fun q hq => h q (by simp [hq]))

/-- The cells of a label's variable. -/
def labRow (p : Nat × Nat) (i : Nat) : Value := if i = 0 then .int .u8 p.1 else .int .u16 p.2

theorem labRow0 {w : World} {g : Nat} {t : TypeId} {p : Nat × Nat} (h : w.rowIs g t 2 (labRow p)) : w.cell? ⟨g, 0, none⟩ = some (.int .u8 p.1) := h.cell (by omega)
theorem labRow1 {w : World} {g : Nat} {t : TypeId} {p : Nat × Nat} (h : w.rowIs g t 2 (labRow p)) : w.cell? ⟨g, 1, none⟩ = some (.int .u16 p.2) := h.cell (by omega)
theorem labRow_set {w : World} {g : Nat} {t : TypeId} {p : Nat × Nat} (h : w.rowIs g t 2 (labRow p)) (x y : Nat) : ((w.setCell ⟨g, 0, none⟩ (.int .u8 x)).setCell ⟨g, 1, none⟩ (.int .u16 y)).rowIs g t 2 (labRow (x, y)) :=
  ((h.set 0 _).set 1 _).congr (fun i hi => by
    have : i = 0 ∨ i = 1 := by omega
    rcases this with rfl | rfl <;> simp [labRow])

theorem lab_load {w : World} {g : Nat} {t : TypeId} {p : Nat × Nat} (h : w.rowIs g t 2 (labRow p)) : (loadVar 25 ⟨g, 0, none⟩).run Tryd.prog w = .ok (labV p) w :=
  run_loadVar_piece w 25 g 0 #[.int .u8 p.1, .int .u16 p.2] _ (fun j v hv => by
    have hj : j < 2 := by
      rcases Nat.lt_or_ge j 2 with h | h
      · exact h
      · rw [List.getElem?_eq_none (by simpa using h)] at hv; cases hv
    rw [Nat.zero_add, h.cell hj]
    have : j = 0 ∨ j = 1 := by omega
    rcases this with rfl | rfl <;> simpa [labRow] using hv) Tryd.underlying25 rfl (by kernel_rfl)

theorem labRow_new (w : World) (t : TypeId) (p : Nat × Nat) : (w.alloc (.cells #[.int .u8 p.1, .int .u16 p.2] t)).rowIs w.heap.size t 2 (labRow p) :=
  World.rowIs_alloc w #[.int .u8 p.1, .int .u16 p.2] t (labRow p) (fun i hi => by
    have : i = 0 ∨ i = 1 := by simp at hi; omega
    rcases this with rfl | rfl <;> rfl)

set_option maxHeartbeats 2000000 in
theorem labJoin_any (v : Value) (ls : List (Nat × Nat)) (w : World) (hv : LS w v ls) (hn : ls.length ≤ 1000) :
    Calls Tryd.prog 18 #[v] w fun e w' => e = .returned (labV (joinAll ls)) ∧ Below w.heap.size w w' := by
  obtain ⟨A, cap, rfl, hlc, hcm⟩ := hv.sr.form
  have HV := Lib.hid hv
  clear hv
  go_enter Tryd.func18, Tryd.ntmps18
  go_wp2_with fail
  have g1 : ((w.alloc (.cells #[.int .u8 0, .int .u16 0] 25)).alloc (.cells #[.int .u8 0, .int .u16 0] 25)).rowIs (w.heap.size + 1) 25 2 (labRow (0, 0)) := by
    simpa using labRow_new (w.alloc (.cells #[.int .u8 0, .int .u16 0] 25)) 25 (0, 0)
  have g0 : ((w.alloc (.cells #[.int .u8 0, .int .u16 0] 25)).alloc (.cells #[.int .u8 0, .int .u16 0] 25)).rowIs w.heap.size 25 2 (labRow (0, 0)) := (labRow_new w 25 (0, 0)).alloc _
  have hb : Below w.heap.size w ((w.alloc (.cells #[.int .u8 0, .int .u16 0] 25)).alloc (.cells #[.int .u8 0, .int .u16 0] 25)) := bnewAfter (bnew _ _) _
  generalize (w.alloc (.cells #[.int .u8 0, .int .u16 0] 25)).alloc (.cells #[.int .u8 0, .int .u16 0] 25) = w1 at *
  go_loopw [8] (fun v wr => ∃ k : Nat, k ≤ ls.length ∧ v = .int .i64 k ∧ wr.rowIs (w.heap.size + 1) 25 2 (labRow ((ls.take k).foldl joinL (0, 0))) ∧ wr.rowIs w.heap.size 25 2 (labRow (0, 0)) ∧ Below w.heap.size w wr) (fun v _ => (ls.length - intOf v).toNat)
  case atStart => exact ⟨0, by omega, rfl, g1, g0, hb⟩
  case round =>
    obtain ⟨k, hk, rfl, hrow, h0, hbr⟩ := hrel
    clear g1 g0 hb
    have c30 := labRow0 hrow
    have c31 := labRow1 hrow
    have f3 := hrow.frozen
    have hl3 := hrow.lt
    by_cases hlt : k < ls.length
    · have hnx := foldl_next joinL (0, 0) ls k hlt
      have hpok := HV.out.wf ls[k] (List.getElem_mem hlt)
      have hook := foldl_ok (f := joinL) (fun a b ha hb => joinL_ok ha hb) (ls.take k) (0, 0) ⟨by simp, by simp⟩ (fun p hp => HV.out.wf p (List.mem_of_mem_take hp))
      rcases (HV.out.keep hbr).cases with ⟨h, _⟩ | ⟨_, g, off, cap', hs, _, _, hg, hc⟩
      · rw [h] at hlt; simp at hlt
      cases hs
      obtain ⟨d0, d1⟩ := hc k hlt
      have hgw : g < w.heap.size := by
        rcases HV.out.cases with ⟨h, _⟩ | ⟨_, g', off', cap'', hs', _, _, hg', _⟩
        · rw [h] at hlt; simp at hlt
        · cases hs'; exact hg'
      generalize ls[k] = p at *
      generalize (ls.take k).foldl joinL (0, 0) = o at *
      have hor := bits_or_u16 o.2 p.2 hook.2 hpok.2
      have HR := Lib.hid hrow
      have H0 := Lib.hid h0
      have HN := Lib.hid hnx
      clear hrow h0 hnx hc
      go_wp2_with fail
      refine ⟨⟨k + 1, by omega, rfl, ?_, ?_, ?_⟩, by simp [intOf]; omega⟩
      · rw [HN.out, show (Value.int .u8 (if o.1 < p.1 then (p.1 : Int) else (o.1 : Int))) = .int .u8 ((max o.1 p.1 : Nat) : Int) by split <;> (apply val_int; omega)]
        exact (labRow_set HR.out (max o.1 p.1) (o.2 ||| p.2)).alloc _
      · refine H0.out.of_block ?_
        rw [Below.heap_alloc _ _ _ (by simp; omega), Below.heap_setCell _ _ _ _ (by show w.heap.size ≠ w.heap.size + 1; omega), Below.heap_setCell _ _ _ _ (by show w.heap.size ≠ w.heap.size + 1; omega)]
      · exact ((hbr.setCell (Nat.le_succ _) _).setCell (Nat.le_succ _) _).alloc (by simp; omega) _
    · have hfin : (ls.take k).foldl joinL (0, 0) = joinAll ls := by rw [List.take_of_length_le (by omega)]; rfl
      rw [hfin] at c30 c31
      have f0 := h0.frozen
      have e00 := labRow0 h0
      have e01 := labRow1 h0
      have H0 := Lib.hid h0
      clear hrow hfin h0
      go_wp2_with fail
      have hrun := lab_load (labRow_set H0.out (joinAll ls).1 (joinAll ls).2)
      exact bodyPost_ret (v := labV (joinAll ls)) (by simp [results, Tryd.results18, Act.put, asAddr, hrun]) rfl ⟨rfl, (hbr.setCell (Nat.le_refl _) _).setCell (Nat.le_refl _) _⟩
set_option maxHeartbeats 1000000 in
theorem labTop_any (w : World) : Calls Tryd.prog 24 #[] w fun e w' => e = .returned (labV (15, 65535)) ∧ Below w.heap.size w w' := by
  go_enter Tryd.func24, Tryd.ntmps24
  go_wp2_with fail
  have hrun := lab_load (labRow_new w 25 (15, 65535))
  exact bodyPost_ret (v := labV (15, 65535)) (by simpa [results, Tryd.results24, Act.put, asAddr] using hrun) rfl ⟨rfl, bnew _ _⟩

set_option maxHeartbeats 2000000 in
theorem labMeet_any (v : Value) (ls : List (Nat × Nat)) (w : World) (hv : LS w v ls) (hn : ls.length ≤ 1000) :
    Calls Tryd.prog 20 #[v] w fun e w' => e = .returned (labV (meetAll ls)) ∧ Below w.heap.size w w' := by
  obtain ⟨A, cap, rfl, hlc, hcm⟩ := hv.sr.form
  have HV := Lib.hid hv
  clear hv
  go_enter Tryd.func20, Tryd.ntmps20
  go_wp2_with fail
  go_at_call 24; refine (labTop_any _).mono ?_; rintro e wT ⟨rfl, hbT⟩
  have g0 : wT.rowIs w.heap.size 25 2 (labRow (0, 0)) := (labRow_new w 25 (0, 0)).of_block (hbT.block _ (by simp))
  have hbw : Below w.heap.size w wT := bnext (bnew _ _) hbT
  unfold labV
  go_wp2_with fail
  have g1 := labRow_new wT 25 (15, 65535)
  have g0' := g0.alloc (.cells #[.int .u8 15, .int .u16 65535] 25)
  have hgO : w.heap.size < wT.heap.size := g0.lt
  have hb : Below w.heap.size w (wT.alloc (.cells #[.int .u8 15, .int .u16 65535] 25)) := bnewAfter hbw _
  clear g0
  replace g1 : (wT.alloc (.cells #[.int .u8 15, .int .u16 65535] 25)).rowIs wT.heap.size 25 2 (labRow (15, 65535)) := g1
  generalize wT.alloc (.cells #[.int .u8 15, .int .u16 65535] 25) = w1 at *
  generalize wT.heap.size = gO at *
  clear hbw hbT
  go_loopw [9] (fun v wr => ∃ k : Nat, k ≤ ls.length ∧ v = .int .i64 k ∧ wr.rowIs gO 25 2 (labRow ((ls.take k).foldl meetL (15, 65535))) ∧ wr.rowIs w.heap.size 25 2 (labRow (0, 0)) ∧ Below w.heap.size w wr) (fun v _ => (ls.length - intOf v).toNat)
  case atStart => exact ⟨0, by omega, rfl, g1, g0', hb⟩
  case round =>
    obtain ⟨k, hk, rfl, hrow, h0, hbr⟩ := hrel
    clear g1 g0' hb
    have c30 := labRow0 hrow
    have c31 := labRow1 hrow
    have f3 := hrow.frozen
    have hl3 := hrow.lt
    by_cases hlt : k < ls.length
    · have hnx := foldl_next meetL (15, 65535) ls k hlt
      have hpok := HV.out.wf ls[k] (List.getElem_mem hlt)
      have hook := foldl_ok (f := meetL) (fun a b ha hb => meetL_ok ha) (ls.take k) (15, 65535) ⟨by simp, by simp⟩ (fun p hp => HV.out.wf p (List.mem_of_mem_take hp))
      rcases (HV.out.keep hbr).cases with ⟨h, _⟩ | ⟨_, g, off, cap', hs, _, _, hg, hc⟩
      · rw [h] at hlt; simp at hlt
      cases hs
      obtain ⟨d0, d1⟩ := hc k hlt
      have hgw : g < w.heap.size := by
        rcases HV.out.cases with ⟨h, _⟩ | ⟨_, g', off', cap'', hs', _, _, hg', _⟩
        · rw [h] at hlt; simp at hlt
        · cases hs'; exact hg'
      generalize ls[k] = p at *
      generalize (ls.take k).foldl meetL (15, 65535) = o at *
      have hor := bits_and_u16 o.2 p.2 hook.2 hpok.2
      have HR := Lib.hid hrow
      have H0 := Lib.hid h0
      have HN := Lib.hid hnx
      clear hrow h0 hnx hc
      go_wp2_with fail
      refine ⟨⟨k + 1, by omega, rfl, ?_, ?_, ?_⟩, by simp [intOf]; omega⟩
      · rw [HN.out, show (Value.int .u8 (if p.1 < o.1 then (p.1 : Int) else (o.1 : Int))) = .int .u8 ((min o.1 p.1 : Nat) : Int) by split <;> (apply val_int; omega)]
        exact (labRow_set HR.out (min o.1 p.1) (o.2 &&& p.2)).alloc _
      · refine H0.out.of_block ?_
        rw [Below.heap_alloc _ _ _ (by simp; omega), Below.heap_setCell _ _ _ _ (by show w.heap.size ≠ gO; omega), Below.heap_setCell _ _ _ _ (by show w.heap.size ≠ gO; omega)]
      · exact ((hbr.setCell (Nat.le_of_lt hgO) _).setCell (Nat.le_of_lt hgO) _).alloc (by simp; omega) _
    · have hfin : (ls.take k).foldl meetL (15, 65535) = meetAll ls := by rw [List.take_of_length_le (by omega)]; rfl
      rw [hfin] at c30 c31
      have f0 := h0.frozen
      have e00 := labRow0 h0
      have e01 := labRow1 h0
      have H0 := Lib.hid h0
      clear hrow hfin h0
      go_wp2_with fail
      have hrun := lab_load (labRow_set H0.out (meetAll ls).1 (meetAll ls).2)
      exact bodyPost_ret (v := labV (meetAll ls)) (by simp [results, Tryd.results20, Act.put, asAddr, hrun]) rfl ⟨rfl, (hbr.setCell (Nat.le_refl _) _).setCell (Nat.le_refl _) _⟩
end Go.Proofs.YtcjnnonfnlemmaaDoor
