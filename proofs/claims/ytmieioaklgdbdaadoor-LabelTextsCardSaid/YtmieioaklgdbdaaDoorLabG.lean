/- Labels: contracts of Make, Of. -/
import Derived.Test.YtmieioaklgdbdaaDoorLabF
set_option linter.unusedVariables false
set_option linter.unusedSimpArgs false
namespace Go.Proofs.YtmieioaklgdbdaaDoor
open Go.RowKit

/-- May these be a label? -/
def catOk (c : Int) : Prop := 0 ≤ c ∧ c < 16
def makeOk (lv : Int) (cs : List Int) : Prop := (0 ≤ lv ∧ lv ≤ 15) ∧ ∀ c ∈ cs, catOk c
def orCat (o : Nat) (c : Int) : Nat := o ||| 2 ^ c.toNat
def orAll (cs : List Int) : Nat := cs.foldl orCat 0
theorem orCat_lt {o : Nat} {c : Int} (ho : o < 65536) (hc : catOk c) : orCat o c < 65536 := by
  have : c.toNat < 16 := by unfold catOk at hc; omega
  have := (pow16 this).1
  exact Nat.or_lt_two_pow (n := 16) ho (by omega)
theorem orAll_lt : ∀ (cs : List Int) (o : Nat), o < 65536 → (∀ c ∈ cs, catOk c) → cs.foldl orCat o < 65536
  | [], o, ho, _ => ho
  | c :: cs, o, ho, h => orAll_lt cs (orCat o c) (orCat_lt ho (h c (by simp))) (fun d hd => h d (by simp [hd]))

set_option maxHeartbeats 8000000 in
theorem labMake_any (lv : Int) (v : Value) (cs : List Int) (w : World) (hv : SI w .i64 v cs) (hn : cs.length ≤ 1000) :
    Calls Tryd.prog 9 #[.int .i64 lv, v] w fun e w' => ((makeOk lv cs ∧ e = .returned (.tuple #[labV (lv.toNat, orAll cs), .int .i64 0])) ∨ (¬ makeOk lv cs ∧ e = .returned (.tuple #[labV (0, 0), .int .i64 27]))) ∧ Below w.heap.size w w' := by
  obtain ⟨A, cap, rfl, hlc, hcm⟩ := hv.sr.form
  have HV := Lib.hid hv
  clear hv
  by_cases hlv : 0 ≤ lv ∧ lv ≤ 15
  · obtain ⟨l, rfl⟩ := Int.eq_ofNat_of_zero_le hlv.1
    have hl : l ≤ 15 := by omega
    have hl' : (l : Int) ≤ 15 := by omega
    have hl2 : (l : Int) % 256 = l := by omega
    go_enter Tryd.func9, Tryd.ntmps9
    go_wp2_with fail
    have g1 : ((w.alloc (.cells #[.int .u8 0, .int .u16 0] 24)).alloc (.cells #[.int .u8 l, .int .u16 0] 24)).rowIs (w.heap.size + 1) 24 2 (labRow (l, 0)) := by
      simpa using labRow_new (w.alloc (.cells #[.int .u8 0, .int .u16 0] 24)) 24 (l, 0)
    have g0 : ((w.alloc (.cells #[.int .u8 0, .int .u16 0] 24)).alloc (.cells #[.int .u8 l, .int .u16 0] 24)).rowIs w.heap.size 24 2 (labRow (0, 0)) := (labRow_new w 24 (0, 0)).alloc _
    have hb : Below w.heap.size w ((w.alloc (.cells #[.int .u8 0, .int .u16 0] 24)).alloc (.cells #[.int .u8 l, .int .u16 0] 24)) := bnewAfter (bnew _ _) _
    generalize (w.alloc (.cells #[.int .u8 0, .int .u16 0] 24)).alloc (.cells #[.int .u8 l, .int .u16 0] 24) = w1 at *
    obtain ⟨gO, hgO⟩ : ∃ g, g = w.heap.size + 1 := ⟨_, rfl⟩
    rw [← hgO] at g1 ⊢
    have hgO' : w.heap.size < gO := by omega
    clear hgO
    go_loopw [5, 21] (fun v5 v wr => v5 = .int .i64 0 ∧ ∃ k : Nat, k ≤ cs.length ∧ v = .int .i64 k ∧ (∀ c ∈ cs.take k, catOk c) ∧ wr.rowIs gO 24 2 (labRow (l, orAll (cs.take k))) ∧ wr.rowIs w.heap.size 24 2 (labRow (0, 0)) ∧ Below w.heap.size w wr) (fun _ v _ => (cs.length - intOf v).toNat)
    case atStart => exact ⟨rfl, 0, by omega, rfl, fun c hc => by simp at hc, g1, g0, hb⟩
    case round =>
      obtain ⟨rfl, k, hk, rfl, hcs, hrow, h0, hB⟩ := hrel
      clear g1 g0 hb
      by_cases hlt : k < cs.length
      · rcases (HV.out.keep hB).cases with ⟨h, _⟩ | ⟨_, g, off, c1, hs, _, _, hg, hc⟩
        · rw [h] at hlt; simp at hlt
        cases hs
        have d0 := hc k hlt
        have hck : cs.getD k 0 = cs[k] := by simp [List.getD_eq_getElem?_getD, List.getElem?_eq_getElem hlt]
        rw [hck] at d0
        have hmem := List.getElem_mem hlt
        have htk : cs.take (k + 1) = cs.take k ++ [cs[k]] := by rw [List.take_add_one, List.getElem?_eq_getElem hlt]; rfl
        have horn : orAll (cs.take (k + 1)) = orCat (orAll (cs.take k)) cs[k] := by unfold orAll; rw [htk, List.foldl_append]; rfl
        have hlt16 := orAll_lt (cs.take k) 0 (by omega) hcs
        rw [show (cs.take k).foldl orCat 0 = orAll (cs.take k) from rfl] at hlt16
        generalize cs[k] = c at *
        generalize orAll (cs.take k) = o at *
        clear hc hck
        by_cases hc : catOk c
        · have hcs' : ∀ d ∈ cs.take (k + 1), catOk d := by
            rw [htk]
            intro d hd
            rcases List.mem_append.1 hd with h | h
            · exact hcs d h
            · simp only [List.mem_singleton] at h; subst h; exact hc
          have hc0 : 0 ≤ c := hc.1
          have hc15 : c < 16 := hc.2
          obtain ⟨j, rfl⟩ := Int.eq_ofNat_of_zero_le hc0
          have hj : j < 16 := by omega
          obtain ⟨hp1, hp2⟩ := pow16 hj
          have hor : bits .or .u16 (o : Int) (IntKind.u16.wrap (2 ^ j)) = ((orCat o (j : Int) : Nat) : Int) := by
            have h2 : (2 : Int) ^ j = ((2 ^ j : Nat) : Int) := by simp
            rw [h2, IntKind.wrap_u16, show ((2 ^ j : Nat) : Int) % 65536 = ((2 ^ j : Nat) : Int) by omega]
            exact bits_or_u16 o (2 ^ j) hlt16 (by omega)
          have x0 := labRow0 hrow
          have x1 := labRow1 hrow
          have f3 := hrow.frozen
          have hl3 := hrow.lt
          have HR := Lib.hid hrow
          have H0 := Lib.hid h0
          have HN := Lib.hid horn
          have HC := Lib.hid hcs'
          have HT := Lib.hid htk
          clear hrow h0 horn hcs hcs' htk hmem
          go_wp2_with fail
          go_region
          go_wp2_with fail
          refine ⟨⟨rfl, k + 1, by omega, rfl, HC.out, ?_, ?_, ?_⟩, by simp [intOf]; omega⟩
          · rw [HN.out]
            exact ((HR.out.set 1 _).congr (fun i hi => by
              have : i = 0 ∨ i = 1 := by omega
              rcases this with rfl | rfl <;> simp [labRow])).drew
          · exact (H0.out.of_block (Below.heap_setCell _ _ _ _ (by show w.heap.size ≠ gO; omega))).drew
          · exact bdrewN (hB.setCell (Nat.le_of_lt hgO') _) 1
        · have hno : ¬ makeOk (l : Int) cs := fun h => hc (h.2 c hmem)
          have f0 := h0.frozen
          have e00 := labRow0 h0
          have e01 := labRow1 h0
          have H0 := Lib.hid h0
          have HN := Lib.hid hno
          have hcc : c < 0 ∨ (0 ≤ c ∧ 16 ≤ c) := by unfold catOk at hc; omega
          clear hrow h0 horn hcs htk hmem hno hc
          have hrun : (loadVar 24 ⟨w.heap.size, 0, none⟩).run Tryd.prog ((wr.setCell ⟨w.heap.size, 0, none⟩ (.int .u8 0)).setCell ⟨w.heap.size, 1, none⟩ (.int .u16 0)) = .ok (labV (0, 0)) ((wr.setCell ⟨w.heap.size, 0, none⟩ (.int .u8 0)).setCell ⟨w.heap.size, 1, none⟩ (.int .u16 0)) := lab_load (labRow_set H0.out 0 0)
          have hBE := (hB.setCell (p := ⟨w.heap.size, 0, none⟩) (Nat.le_refl _) (.int .u8 0)).setCell (Nat.le_refl _) (.int .u16 0) (p := ⟨w.heap.size, 1, none⟩)
          rcases hcc with hneg | ⟨hpos, hbig⟩
          · have hneg' : c < 0 := hneg
            go_wp2_with fail
            exact bodyPost_ret (v := .tuple #[labV (0, 0), .int .i64 27]) (by simp [results, Tryd.results9, Act.put, asAddr, hrun]) rfl ⟨.inr ⟨HN.out, rfl⟩, hBE⟩
          · have hpos' : ¬ c < 0 := by omega
            go_wp2_with fail
            exact bodyPost_ret (v := .tuple #[labV (0, 0), .int .i64 27]) (by simp [results, Tryd.results9, Act.put, asAddr, hrun]) rfl ⟨.inr ⟨HN.out, rfl⟩, hBE⟩
      · have hfin : cs.take k = cs := List.take_of_length_le (by omega)
        rw [hfin] at hcs hrow
        have hyes : makeOk (l : Int) cs := ⟨hlv, hcs⟩
        have x0 := labRow0 hrow
        have x1 := labRow1 hrow
        have f0 := h0.frozen
        have e00 := labRow0 h0
        have e01 := labRow1 h0
        have H0 := Lib.hid h0
        have HY := Lib.hid hyes
        clear hrow h0 hcs hfin hyes
        have hrun := lab_load (labRow_set H0.out l (orAll cs))
        have hBE := (hB.setCell (p := ⟨w.heap.size, 0, none⟩) (Nat.le_refl _) (.int .u8 l)).setCell (Nat.le_refl _) (.int .u16 (orAll cs : Nat)) (p := ⟨w.heap.size, 1, none⟩)
        go_wp2_with fail
        exact bodyPost_ret (v := .tuple #[labV ((l : Int).toNat, orAll cs), .int .i64 0]) (by simp [results, Tryd.results9, Act.put, asAddr, hrun]) rfl ⟨.inl ⟨HY.out, rfl⟩, hBE⟩
  · have hno : ¬ makeOk lv cs := fun h => hlv h.1
    have hrun := lab_load (labRow_new w 24 (0, 0))
    have H0 := Lib.hid hno
    clear hno
    have hBE := bnew w (.cells #[.int .u8 0, .int .u16 0] 24)
    have hcc : lv < 0 ∨ (0 ≤ lv ∧ 15 < lv) := by omega
    clear hlv
    rcases hcc with hneg | ⟨hpos, hbig⟩
    · go_enter Tryd.func9, Tryd.ntmps9
      go_wp2_with fail
      exact bodyPost_ret (v := .tuple #[labV (0, 0), .int .i64 27]) (by
        have hrun' : (loadVar 24 ⟨w.heap.size, 0, none⟩).run Tryd.prog (w.alloc (.cells #[.int .u8 0, .int .u16 0] 24)) = .ok (labV (0, 0)) (w.alloc (.cells #[.int .u8 0, .int .u16 0] 24)) := hrun
        simp [results, Tryd.results9, Act.put, asAddr, hrun']) rfl ⟨.inr ⟨H0.out, rfl⟩, hBE⟩
    · have hpos' : ¬ lv < 0 := by omega
      go_enter Tryd.func9, Tryd.ntmps9
      go_wp2_with fail
      exact bodyPost_ret (v := .tuple #[labV (0, 0), .int .i64 27]) (by
        have hrun' : (loadVar 24 ⟨w.heap.size, 0, none⟩).run Tryd.prog (w.alloc (.cells #[.int .u8 0, .int .u16 0] 24)) = .ok (labV (0, 0)) (w.alloc (.cells #[.int .u8 0, .int .u16 0] 24)) := hrun
        simp [results, Tryd.results9, Act.put, asAddr, hrun']) rfl ⟨.inr ⟨H0.out, rfl⟩, hBE⟩
theorem regrown_cell {w : World} {b o : Nat} {v : Value} (h : w.cell? ⟨b, o, none⟩ = some v) (d : Nat) (os : Array Obj) : (Go.Sort.grow (redrawn w d) os).cell? ⟨b, o, none⟩ = some v := by
  rw [(bcell (below_regrown w d os)).1 b o (block_lt_of_cell h)]; exact h

set_option maxHeartbeats 8000000 in
theorem refOf_any (lv : Int) (v : Value) (cs : List Int) (w : World) (hv : SI w .i64 v cs) (hn : cs.length ≤ 1000) :
    Calls Tryd.prog 13 #[.int .i64 lv, v] w fun e w' => ((makeOk lv cs ∧ e = .returned (.tuple #[labV (lv.toNat, orAll cs), .bool true])) ∨ (¬ makeOk lv cs ∧ e = .returned (.tuple #[labV (0, 0), .bool false]))) ∧ Below w.heap.size w w' := by
  obtain ⟨A, cap, rfl, hlc, hcm⟩ := hv.sr.form
  have HV := Lib.hid hv
  clear hv
  by_cases hlv : 0 ≤ lv ∧ lv ≤ 15
  · obtain ⟨l, rfl⟩ := Int.eq_ofNat_of_zero_le hlv.1
    have hl : l ≤ 15 := by omega
    have hl' : (l : Int) ≤ 15 := by omega
    have hl2 : (l : Int) % 256 = l := by omega
    go_enter Tryd.func13, Tryd.ntmps13
    go_wp2_with fail
    have g1 : ((w.alloc (.cells #[.int .u8 0, .int .u16 0] 24)).alloc (.cells #[.int .u8 l, .int .u16 0] 24)).rowIs (w.heap.size + 1) 24 2 (labRow (l, 0)) := by
      simpa using labRow_new (w.alloc (.cells #[.int .u8 0, .int .u16 0] 24)) 24 (l, 0)
    have g0 : ((w.alloc (.cells #[.int .u8 0, .int .u16 0] 24)).alloc (.cells #[.int .u8 l, .int .u16 0] 24)).rowIs w.heap.size 24 2 (labRow (0, 0)) := (labRow_new w 24 (0, 0)).alloc _
    have hb : Below w.heap.size w ((w.alloc (.cells #[.int .u8 0, .int .u16 0] 24)).alloc (.cells #[.int .u8 l, .int .u16 0] 24)) := bnewAfter (bnew _ _) _
    generalize (w.alloc (.cells #[.int .u8 0, .int .u16 0] 24)).alloc (.cells #[.int .u8 l, .int .u16 0] 24) = w1 at *
    obtain ⟨gO, hgO⟩ : ∃ g, g = w.heap.size + 1 := ⟨_, rfl⟩
    rw [← hgO] at g1 ⊢
    have hgO' : w.heap.size < gO := by omega
    clear hgO
    go_loopw [5, 7] (fun v5 v wr => v5 = .bool false ∧ ∃ k : Nat, k ≤ cs.length ∧ v = .int .i64 k ∧ (∀ c ∈ cs.take k, catOk c) ∧ wr.rowIs gO 24 2 (labRow (l, orAll (cs.take k))) ∧ wr.rowIs w.heap.size 24 2 (labRow (0, 0)) ∧ Below w.heap.size w wr) (fun _ v _ => (cs.length - intOf v).toNat)
    case atStart => exact ⟨rfl, 0, by omega, rfl, fun c hc => by simp at hc, g1, g0, hb⟩
    case round =>
      obtain ⟨rfl, k, hk, rfl, hcs, hrow, h0, hB⟩ := hrel
      clear g1 g0 hb
      by_cases hlt : k < cs.length
      · rcases (HV.out.keep hB).cases with ⟨h, _⟩ | ⟨_, g, off, c1, hs, _, _, hg, hc⟩
        · rw [h] at hlt; simp at hlt
        cases hs
        have d0 := hc k hlt
        have hck : cs.getD k 0 = cs[k] := by simp [List.getD_eq_getElem?_getD, List.getElem?_eq_getElem hlt]
        rw [hck] at d0
        have hmem := List.getElem_mem hlt
        have htk : cs.take (k + 1) = cs.take k ++ [cs[k]] := by rw [List.take_add_one, List.getElem?_eq_getElem hlt]; rfl
        have horn : orAll (cs.take (k + 1)) = orCat (orAll (cs.take k)) cs[k] := by unfold orAll; rw [htk, List.foldl_append]; rfl
        have hlt16 := orAll_lt (cs.take k) 0 (by omega) hcs
        rw [show (cs.take k).foldl orCat 0 = orAll (cs.take k) from rfl] at hlt16
        generalize cs[k] = c at *
        generalize orAll (cs.take k) = o at *
        clear hc hck
        by_cases hc : catOk c
        · have hcs' : ∀ d ∈ cs.take (k + 1), catOk d := by
            rw [htk]
            intro d hd
            rcases List.mem_append.1 hd with h | h
            · exact hcs d h
            · simp only [List.mem_singleton] at h; subst h; exact hc
          have hc0 : 0 ≤ c := hc.1
          have hc15 : c < 16 := hc.2
          obtain ⟨j, rfl⟩ := Int.eq_ofNat_of_zero_le hc0
          have hj : j < 16 := by omega
          obtain ⟨hp1, hp2⟩ := pow16 hj
          have hor : bits .or .u16 (o : Int) (IntKind.u16.wrap (2 ^ j)) = ((orCat o (j : Int) : Nat) : Int) := by
            have h2 : (2 : Int) ^ j = ((2 ^ j : Nat) : Int) := by simp
            rw [h2, IntKind.wrap_u16, show ((2 ^ j : Nat) : Int) % 65536 = ((2 ^ j : Nat) : Int) by omega]
            exact bits_or_u16 o (2 ^ j) hlt16 (by omega)
          have x0 := labRow0 hrow
          have x1 := labRow1 hrow
          have hno0 : ¬ (j : Int) < 0 := by omega
          have hno1 : ¬ (15 : Int) < (j : Int) := by omega
          have q0 := regrown_cell x0
          have q1 := regrown_cell x1
          have qd := regrown_cell d0
          have HN := Lib.hid horn
          have HC := Lib.hid hcs'
          have HT := Lib.hid htk
          clear horn hcs hcs' htk hmem
          go_wp2_with fail
          refine wp_region_quiet_below (by kernel_rfl) (by kernel_rfl) ?_
          repeat (go_big_quiet_step (first
            | (go_at_call 20; exact Calls.regrown_of (refHas_any (l, o) ⟨by show l ≤ 255; omega, hlt16⟩ j hj _))))
          refine wpQuiet_nil ?_
          intro w6 hw6
          have hb6 : Below wr.heap.size wr w6 := by obtain ⟨p, rfl⟩ := hw6; exact below_regrown wr p.d p.os
          have hB6 := hB.trans (hb6.mono hB.size)
          have r6 := hrow.of_block (hb6.block gO hrow.lt)
          have z6 := h0.of_block (hb6.block w.heap.size h0.lt)
          have d6 := (bcell hb6).1 g (off + k) hg
          rw [d0] at d6
          clear hw6 q0 q1 qd hrow h0 x0 x1
          have x0 := labRow0 r6
          have x1 := labRow1 r6
          have f3 := r6.frozen
          have hl3 := r6.lt
          have HR := Lib.hid r6
          have H0 := Lib.hid z6
          clear r6 z6
          cases hoj : o.testBit j
          · have hor : orCat o (j : Int) = o + 2 ^ j := by
              apply Nat.eq_of_testBit_eq
              intro i
              unfold orCat
              rw [bit_add o j i hoj, Nat.testBit_or, show ((j : Int)).toNat = j by omega, Nat.testBit_two_pow, Bool.or_comm]
              congr 1
              exact decide_eq_decide.2 ⟨fun h => h.symm, fun h => h.symm⟩
            have hlt17 := orCat_lt hlt16 (show catOk (j : Int) from ⟨hc0, hc15⟩)
            have hv : IntKind.u16.wrap ((o : Int) + IntKind.u16.wrap (2 ^ j)) = ((orCat o (j : Int) : Nat) : Int) := by
              have h2 : (2 : Int) ^ j = ((2 ^ j : Nat) : Int) := by simp
              rw [h2, IntKind.wrap_u16, IntKind.wrap_u16]
              omega
            have HV2 := Lib.hid hv
            clear hor hv
            go_wp2_with fail
            go_region
            rw [HV2.out]
            go_wp2_with fail
            refine ⟨⟨rfl, k + 1, by omega, rfl, HC.out, ?_, ?_, ?_⟩, by simp [intOf]; omega⟩
            · rw [HN.out]
              exact ((HR.out.set 1 _).congr (fun i hi => by
                have : i = 0 ∨ i = 1 := by omega
                rcases this with rfl | rfl <;> simp [labRow])).drew
            · exact (H0.out.of_block (Below.heap_setCell _ _ _ _ (by show w.heap.size ≠ gO; omega))).drew
            · exact bdrewN (hB6.setCell (Nat.le_of_lt hgO') _) 1
          · have hor : orCat o (j : Int) = o := by
              apply Nat.eq_of_testBit_eq
              intro i
              unfold orCat
              rw [Nat.testBit_or, show ((j : Int)).toNat = j by omega, Nat.testBit_two_pow]
              by_cases h : j = i
              · subst h; rw [hoj]; rfl
              · rw [decide_eq_false h, Bool.or_false]
            have HO := Lib.hid hor
            clear hor
            go_wp2_with fail
            refine ⟨⟨rfl, k + 1, by omega, rfl, HC.out, ?_, H0.out, hB6⟩, by simp [intOf]; omega⟩
            rw [HN.out, HO.out]
            exact HR.out
        · have hno : ¬ makeOk (l : Int) cs := fun h => hc (h.2 c hmem)
          have f0 := h0.frozen
          have e00 := labRow0 h0
          have e01 := labRow1 h0
          have H0 := Lib.hid h0
          have HN := Lib.hid hno
          have hcc : c < 0 ∨ (0 ≤ c ∧ 15 < c) := by unfold catOk at hc; omega
          clear hrow h0 horn hcs htk hmem hno hc
          have hrun : (loadVar 24 ⟨w.heap.size, 0, none⟩).run Tryd.prog ((wr.setCell ⟨w.heap.size, 0, none⟩ (.int .u8 0)).setCell ⟨w.heap.size, 1, none⟩ (.int .u16 0)) = .ok (labV (0, 0)) ((wr.setCell ⟨w.heap.size, 0, none⟩ (.int .u8 0)).setCell ⟨w.heap.size, 1, none⟩ (.int .u16 0)) := lab_load (labRow_set H0.out 0 0)
          have hBE := (hB.setCell (p := ⟨w.heap.size, 0, none⟩) (Nat.le_refl _) (.int .u8 0)).setCell (Nat.le_refl _) (.int .u16 0) (p := ⟨w.heap.size, 1, none⟩)
          rcases hcc with hneg | ⟨hpos, hbig⟩
          · have hneg' : c < 0 := hneg
            go_wp2_with fail
            exact bodyPost_ret (v := .tuple #[labV (0, 0), .bool false]) (by simp [results, Tryd.results13, Act.put, asAddr, hrun]) rfl ⟨.inr ⟨HN.out, rfl⟩, hBE⟩
          · have hpos' : ¬ c < 0 := by omega
            go_wp2_with fail
            exact bodyPost_ret (v := .tuple #[labV (0, 0), .bool false]) (by simp [results, Tryd.results13, Act.put, asAddr, hrun]) rfl ⟨.inr ⟨HN.out, rfl⟩, hBE⟩
      · have hfin : cs.take k = cs := List.take_of_length_le (by omega)
        rw [hfin] at hcs hrow
        have hyes : makeOk (l : Int) cs := ⟨hlv, hcs⟩
        have x0 := labRow0 hrow
        have x1 := labRow1 hrow
        have f0 := h0.frozen
        have e00 := labRow0 h0
        have e01 := labRow1 h0
        have H0 := Lib.hid h0
        have HY := Lib.hid hyes
        clear hrow h0 hcs hfin hyes
        have hrun := lab_load (labRow_set H0.out l (orAll cs))
        have hBE := (hB.setCell (p := ⟨w.heap.size, 0, none⟩) (Nat.le_refl _) (.int .u8 l)).setCell (Nat.le_refl _) (.int .u16 (orAll cs : Nat)) (p := ⟨w.heap.size, 1, none⟩)
        go_wp2_with fail
        exact bodyPost_ret (v := .tuple #[labV ((l : Int).toNat, orAll cs), .bool true]) (by simp [results, Tryd.results13, Act.put, asAddr, hrun]) rfl ⟨.inl ⟨HY.out, rfl⟩, hBE⟩
  · have hno : ¬ makeOk lv cs := fun h => hlv h.1
    have hrun := lab_load (labRow_new w 24 (0, 0))
    have H0 := Lib.hid hno
    clear hno
    have hBE := bnew w (.cells #[.int .u8 0, .int .u16 0] 24)
    have hcc : lv < 0 ∨ (0 ≤ lv ∧ 15 < lv) := by omega
    clear hlv
    rcases hcc with hneg | ⟨hpos, hbig⟩
    · go_enter Tryd.func13, Tryd.ntmps13
      go_wp2_with fail
      exact bodyPost_ret (v := .tuple #[labV (0, 0), .bool false]) (by
        have hrun' : (loadVar 24 ⟨w.heap.size, 0, none⟩).run Tryd.prog (w.alloc (.cells #[.int .u8 0, .int .u16 0] 24)) = .ok (labV (0, 0)) (w.alloc (.cells #[.int .u8 0, .int .u16 0] 24)) := hrun
        simp [results, Tryd.results13, Act.put, asAddr, hrun']) rfl ⟨.inr ⟨H0.out, rfl⟩, hBE⟩
    · have hpos' : ¬ lv < 0 := by omega
      go_enter Tryd.func13, Tryd.ntmps13
      go_wp2_with fail
      exact bodyPost_ret (v := .tuple #[labV (0, 0), .bool false]) (by
        have hrun' : (loadVar 24 ⟨w.heap.size, 0, none⟩).run Tryd.prog (w.alloc (.cells #[.int .u8 0, .int .u16 0] 24)) = .ok (labV (0, 0)) (w.alloc (.cells #[.int .u8 0, .int .u16 0] 24)) := hrun
        simp [results, Tryd.results13, Act.put, asAddr, hrun']) rfl ⟨.inr ⟨H0.out, rfl⟩, hBE⟩
end Go.Proofs.YtmieioaklgdbdaaDoor
