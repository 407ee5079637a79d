/- Labels as texts: the document's Parse. -/
import Derived.Test.YtmieioaklgdbdaaDoorLabW
set_option linter.unusedVariables false
set_option linter.unusedSimpArgs false
namespace Go.Proofs.YtmieioaklgdbdaaDoor
open Go.RowKit

def retR (q : (Nat × Nat) × Int) : Value := .tuple #[labV q.1, .int .i64 q.2]
theorem makeOk_iff (lv : Nat) (cs : List Nat) : makeOk lv (intsI cs) ↔ (lv ≤ 15 ∧ ∀ c ∈ cs, c < 16) := by
  unfold makeOk catOk intsI
  constructor
  · intro h
    exact ⟨by omega, fun c hc => by have := h.2 (c : Int) (List.mem_map.mpr ⟨c, hc, rfl⟩); omega⟩
  · intro h
    exact ⟨by omega, fun z hz => by
      obtain ⟨c, hc, rfl⟩ := List.mem_map.mp hz
      have := h.2 c hc
      omega⟩
theorem mkR_yes {lv : Nat} {cs : List Nat} (h : makeOk lv (intsI cs)) : mkR lv cs = ((lv, orAll (intsI cs)), 0) := by
  rw [mkR, if_pos ((makeOk_iff _ _).mp h)]
theorem mkR_no {lv : Nat} {cs : List Nat} (h : ¬ makeOk lv (intsI cs)) : mkR lv cs = ((0, 0), 27) := by
  rw [mkR, if_neg (fun h' => h ((makeOk_iff _ _).mpr h'))]
theorem SI.ofRow {w : World} {v : Value} {l : List Nat} (h : SR w v l.length 1 (ints l)) (hl : ∀ c ∈ l, c < 1000) : SI w .i64 v (intsI l) := by
  refine ⟨?_, fun z hz => ?_⟩
  · simpa [ints, intsI, Function.comp_def] using h
  · simp only [intsI, List.mem_map] at hz
    obtain ⟨c, hc, rfl⟩ := hz
    have := hl c hc
    exact i64_wf (by omega)
theorem intsI_len (l : List Nat) : (intsI l).length = l.length := by simp [intsI]
theorem parse_none {l : List UInt8} (h : numL l = none) : parseR l = badR := by rw [parseR, h]
theorem parse_end {l : List UInt8} {lv : Nat} (h : numL l = some (lv, [])) : parseR l = mkR lv [] := by rw [parseR, h]; rfl
theorem parse_list {l u : List UInt8} {lv : Nat} (h : numL l = some (lv, 58 :: u)) : parseR l = match listL u (-1) with | none => badR | some cs => mkR lv cs := by
  rw [parseR, h]
  show restR lv [] (-1) 58 (58 :: u) = _
  rw [restR, if_pos rfl]
  cases listL u (-1) with
  | none => rfl
  | some cs => rfl
theorem parse_far {l : List UInt8} {c : Nat} (hc : c = 100) (h : noneTo l (-1) 58 c) : parseR l = badR := by
  cases hn : numL l with
  | none => exact parse_none hn
  | some p =>
    obtain ⟨d, r⟩ := p
    have h9 := (numL_back hn).2.1
    obtain ⟨b, u, rfl, hb⟩ := h d r hn (by omega) (by omega)
    rw [parseR, hn]
    exact restR_bad hb
theorem lab_put (w : World) (p : Nat × Nat) (q : Nat × Nat) : (((w.alloc (.cells #[.int .u8 q.1, .int .u16 q.2] 24)).setCell ⟨w.heap.size, 0, none⟩ (.int .u8 p.1)).setCell ⟨w.heap.size, 1, none⟩ (.int .u16 p.2)).rowIs w.heap.size 24 2 (labRow p) :=
  labRow_set (labRow_new w 24 q) p.1 p.2

set_option maxHeartbeats 4000000 in
theorem refParse_any (l : List UInt8) (hl : l.length ≤ 1000) (w : World) : Calls Tryd.prog 6 #[strV l] w fun e w' => e = .returned (retR (parseR l)) ∧ Below w.heap.size w w' := by
  unfold strV
  have hsz := str_size l
  have hget := str_get l
  have hfrom := str_from l
  have hto := str_to l
  have heq := str_eq l
  obtain ⟨s, hs⟩ : ∃ s : ByteArray, s = ⟨l.toArray⟩ := ⟨_, rfl⟩
  obtain ⟨L, hL⟩ : ∃ L, L = l.length := ⟨_, rfl⟩
  rw [← hs] at hsz hget hfrom hto ⊢
  simp only [← hs] at heq
  rw [← hL] at hsz hget hl
  have HF := Lib.hid hfrom
  have HT := Lib.hid hto
  have HG := Lib.hid hget
  have HE := Lib.hid heq
  have HLL := Lib.hid hL
  have HS := Lib.hid hs
  clear hs hL hget hfrom hto heq
  go_enter Tryd.func6, Tryd.ntmps6
  go_upto_region 1 with fail
  obtain ⟨w0, hw0⟩ : ∃ w0, w0 = w.alloc (.cells #[.int .u8 0, .int .u16 0] 24) := ⟨_, rfl⟩
  have g0 : w0.rowIs w.heap.size 24 2 (labRow (0, 0)) := by rw [hw0]; exact labRow_new w 24 (0, 0)
  have hb0 : Below w.heap.size w w0 := by rw [hw0]; exact bnew _ _
  rw [← hw0]
  clear hw0
  obtain ⟨gr, hgr⟩ : ∃ gr, gr = w.heap.size := ⟨_, rfl⟩
  rw [← hgr] at g0 ⊢
  have HB0 := Lib.hid hb0
  have HG0 := Lib.hid g0
  have HSZ := Lib.hid hgr
  clear hb0 g0 hgr
  go_wp2_with fail
  go_loopw [3, 4] (fun r3 r4 wx => r3 = .int .i64 0 ∧ ∃ c : Nat, c ≤ 100 ∧ r4 = .int .i64 c ∧ noneTo l (-1) 58 c ∧ wx.rowIs gr 24 2 (labRow (0, 0)) ∧ Below w.heap.size w wx) (fun _ r4 _ => 100 - (intOf r4).toNat)
  case atStart => exact ⟨rfl, 0, by omega, rfl, noneTo_low (by omega), HG0.out, HB0.out⟩
  case round =>
    obtain ⟨rfl, c, hc, rfl, hno, hrow, hb⟩ := hrel
    have HN := Lib.hid hno
    have HB := Lib.hid hb
    have HR := Lib.hid hrow
    clear hno hb hrow
    by_cases h1 : c < 100
    · have g1 : (c : Int) < 100 := by omega
      have hc99 : c ≤ 99 := by omega
      have hac := Lib.hid (show (-1 : Int) < (c : Int) from by omega)
      go_wp2_with fail
      refine (refItoa_any c (by omega) _).mono ?_
      rintro e w1 ⟨he, hb1⟩; subst he
      unfold strV
      have HB1 := Lib.hid (bnext HB.out hb1)
      have HR1 := Lib.hid (HR.out.of_block (hb1.block _ HR.out.lt))
      clear hb1
      have hds := digL_size hc99
      have hhz := str_size (digL c)
      have he1 := HE.out (digL c)
      have he2 := str_eq (l.take (digL c).length) (digL c)
      have ht := HT.out (digL c).length
      obtain ⟨k, hk⟩ : ∃ k, k = (digL c).length := ⟨_, rfl⟩
      rw [← hk] at hds hhz he2 ht
      obtain ⟨h, hh⟩ : ∃ h : ByteArray, h = ⟨(digL c).toArray⟩ := ⟨_, rfl⟩
      rw [← hh] at hhz he1 he2 ⊢
      obtain ⟨s1, hs1⟩ : ∃ s1 : ByteArray, s1 = ⟨(l.take k).toArray⟩ := ⟨_, rfl⟩
      rw [← hs1] at he2 ht
      have HK := Lib.hid hk
      have HE2 := Lib.hid he2
      clear hk hh hs1 he2
      obtain ⟨hk1, hk2⟩ := hds
      by_cases hA : l = digL c
      · have HA := Lib.hid (show parseR l = mkR c [] from parse_end (by rw [hA]; exact numL_one hc99))
        rw [beq_iff_eq.mpr hA] at he1
        clear hA ht
        go_wp2_with fail
        refine (refOf_any c (.slice none 0 0) (intsI []) _ (SI.ofRow (l := []) (SR.of_own (World.ownsRow_nil _ 0 3 1)) (by simp)) (by simp [intsI])).mono ?_
        rintro e w2 ⟨hor, hb2⟩
        have HB2 := Lib.hid (bnext HB1.out hb2)
        have HR2 := Lib.hid (HR1.out.of_block (hb2.block _ HR1.out.lt))
        clear hb2
        rcases hor with ⟨hmk, he⟩ | ⟨hmk, he⟩
        · subst he
          have HA2 := Lib.hid ((fun h => HA.out.trans (mkR_yes (cs := []) h)) hmk)
          obtain ⟨o, ho⟩ : ∃ o, o = orAll (intsI []) := ⟨_, rfl⟩
          rw [← ho] at HA2 ⊢
          clear hmk ho
          rw [Int.toNat_natCast]
          unfold labV
          go_upto_region 7 with fail
          have HR3 := Lib.hid (HR2.out.alloc (.cells #[.int .u8 c, .int .u16 o] 24))
          have HB3 := Lib.hid (bnext HB2.out (bnew _ (.cells #[.int .u8 c, .int .u16 o] 24)))
          have hN : (w2.alloc (.cells #[.int .u8 c, .int .u16 o] 24)).rowIs w2.heap.size 24 2 (labRow (c, o)) := labRow_new w2 24 (c, o)
          obtain ⟨w3, hw3⟩ : ∃ w3, w3 = w2.alloc (.cells #[.int .u8 c, .int .u16 o] 24) := ⟨_, rfl⟩
          rw [← hw3] at HR3 HB3 hN ⊢
          clear hw3
          obtain ⟨gN, hgN⟩ : ∃ gN, gN = w2.heap.size := ⟨_, rfl⟩
          rw [← hgN] at hN ⊢
          clear hgN
          have x0 := labRow0 hN
          have x1 := labRow1 hN
          clear hN
          have f0 := HR3.out.frozen
          have e00 := labRow0 HR3.out
          have e01 := labRow1 HR3.out
          have hrun : (loadVar 24 ⟨gr, 0, none⟩).run Tryd.prog ((w3.setCell ⟨gr, 0, none⟩ (.int .u8 c)).setCell ⟨gr, 1, none⟩ (.int .u16 o)) = .ok (labV (c, o)) ((w3.setCell ⟨gr, 0, none⟩ (.int .u8 c)).setCell ⟨gr, 1, none⟩ (.int .u16 o)) := lab_load (labRow_set HR3.out c o)
          have hBE := Lib.hid (((HB3.out).setCell (p := ⟨gr, 0, none⟩) (Nat.le_of_eq HSZ.out.symm) (.int .u8 c)).setCell (p := ⟨gr, 1, none⟩) (Nat.le_of_eq HSZ.out.symm) (.int .u16 o))
          go_wp2_with fail
          exact bodyPost_ret (v := retR ((c, o), 0)) (by simp [results, Tryd.results6, Act.put, asAddr, hrun, retR]) rfl ⟨by rw [HA2.out], hBE.out⟩
        · subst he
          have HA2 := Lib.hid ((fun h => HA.out.trans (mkR_no (cs := []) h)) hmk)
          clear hmk
          unfold labV
          go_upto_region 7 with fail
          have HR3 := Lib.hid (HR2.out.alloc (.cells #[.int .u8 0, .int .u16 0] 24))
          have HB3 := Lib.hid (bnext HB2.out (bnew _ (.cells #[.int .u8 0, .int .u16 0] 24)))
          have hN : (w2.alloc (.cells #[.int .u8 0, .int .u16 0] 24)).rowIs w2.heap.size 24 2 (labRow (0, 0)) := labRow_new w2 24 (0, 0)
          obtain ⟨w3, hw3⟩ : ∃ w3, w3 = w2.alloc (.cells #[.int .u8 0, .int .u16 0] 24) := ⟨_, rfl⟩
          rw [← hw3] at HR3 HB3 hN ⊢
          clear hw3
          obtain ⟨gN, hgN⟩ : ∃ gN, gN = w2.heap.size := ⟨_, rfl⟩
          rw [← hgN] at hN ⊢
          clear hgN
          have x0 := labRow0 hN
          have x1 := labRow1 hN
          clear hN
          have f0 := HR3.out.frozen
          have e00 := labRow0 HR3.out
          have e01 := labRow1 HR3.out
          have hrun : (loadVar 24 ⟨gr, 0, none⟩).run Tryd.prog ((w3.setCell ⟨gr, 0, none⟩ (.int .u8 0)).setCell ⟨gr, 1, none⟩ (.int .u16 0)) = .ok (labV (0, 0)) ((w3.setCell ⟨gr, 0, none⟩ (.int .u8 0)).setCell ⟨gr, 1, none⟩ (.int .u16 0)) := lab_load (labRow_set HR3.out 0 0)
          have hBE := Lib.hid (((HB3.out).setCell (p := ⟨gr, 0, none⟩) (Nat.le_of_eq HSZ.out.symm) (.int .u8 0)).setCell (p := ⟨gr, 1, none⟩) (Nat.le_of_eq HSZ.out.symm) (.int .u16 0))
          go_wp2_with fail
          exact bodyPost_ret (v := retR ((0, 0), 27)) (by simp [results, Tryd.results6, Act.put, asAddr, hrun, retR]) rfl ⟨by rw [HA2.out], hBE.out⟩
      · rw [beq_eq_false_iff_ne.mpr hA] at he1
        have HA := Lib.hid hA
        clear hA
        by_cases h2 : k < L
        · have g2 : (k : Int) < L := by omega
          have g2' : k ≤ L := by omega
          have g2'' : (k : Int) ≤ L := by omega
          have he3 := HE2.out
          by_cases hB : l.take k = digL c
          · rw [beq_iff_eq.mpr hB] at he3
            have hT := Lib.hid (take_is HK.out (by rw [← HLL.out]; exact h2) hB)
            have hx := HG.out k h2
            obtain ⟨b, hb⟩ : ∃ b, b = l.getD k 0 := ⟨_, rfl⟩
            rw [← hb] at hT hx
            clear hb hB
            by_cases h58 : b = 58
            · subst h58
              have hx' : ∀ h, s[k]'h = 58 := hx
              have g3 : (k : Int) + 1 ≤ L := by omega
              have g3' : k + 1 ≤ L := by omega
              have hfr := HF.out (k + 1)
              rw [hsz] at hfr
              obtain ⟨u, hu⟩ : ∃ u, u = l.drop (k + 1) := ⟨_, rfl⟩
              rw [← hu] at hT hfr
              have hul : u.length = L - (k + 1) := by rw [hu, List.length_drop, ← HLL.out]
              have HP := Lib.hid (parse_list (l := l) (u := u) (lv := c) (by rw [hT.out]; exact numL_sep hc99 (by intro b u h; obtain ⟨rfl, _⟩ := List.cons.inj h; decide)))
              have HCALL := Lib.hid (refList_any (u.length + 1) u (by omega) (by omega) (-1) (by omega) (by omega))
              clear hu
              go_wp2_with fail
              refine (HCALL.out _).mono ?_
              rintro e w2 ⟨v, cs, ok, he, hsr, hcl, hll, hc9, hb2⟩; subst he
              have HB2 := Lib.hid (bnext HB1.out hb2)
              have HR2 := Lib.hid (HR1.out.of_block (hb2.block _ HR1.out.lt))
              have hle := hul
              have HSI := Lib.hid (SI.ofRow hsr (fun c hc => by have := hc9 c hc; omega))
              have hcl' : cs.length ≤ 1000 := by omega
              obtain ⟨A, cap, rfl, -, -⟩ := hsr.form
              clear hsr hb2 hc9
              cases ok with
              | false =>
                have HA2 := Lib.hid (show parseR l = ((0, 0), 28) from by rw [HP.out, hll]; rfl)
                clear hll
                have f0 := HR2.out.frozen
                have e00 := labRow0 HR2.out
                have e01 := labRow1 HR2.out
                have hrun : (loadVar 24 ⟨gr, 0, none⟩).run Tryd.prog ((w2.setCell ⟨gr, 0, none⟩ (.int .u8 0)).setCell ⟨gr, 1, none⟩ (.int .u16 0)) = .ok (labV (0, 0)) ((w2.setCell ⟨gr, 0, none⟩ (.int .u8 0)).setCell ⟨gr, 1, none⟩ (.int .u16 0)) := lab_load (labRow_set HR2.out 0 0)
                have hBE := Lib.hid (((HB2.out).setCell (p := ⟨gr, 0, none⟩) (Nat.le_of_eq HSZ.out.symm) (.int .u8 0)).setCell (p := ⟨gr, 1, none⟩) (Nat.le_of_eq HSZ.out.symm) (.int .u16 0))
                go_wp2_with fail
                exact bodyPost_ret (v := retR ((0, 0), 28)) (by simp [results, Tryd.results6, Act.put, asAddr, hrun, retR]) rfl ⟨by rw [HA2.out], hBE.out⟩
              | true =>
                have HA2 := Lib.hid (show parseR l = mkR c cs from by rw [HP.out, hll]; rfl)
                clear hll
                have HOF := Lib.hid (refOf_any c (.slice A cs.length cap) (intsI cs) w2 HSI.out (by rw [intsI_len]; exact hcl'))
                go_wp2_with fail
                refine HOF.out.mono ?_
                rintro e w4 ⟨hor, hb4⟩
                have HB4 := Lib.hid (bnext HB2.out hb4)
                have HR4 := Lib.hid (HR2.out.of_block (hb4.block _ HR2.out.lt))
                clear hb4
                rcases hor with ⟨hmk, he⟩ | ⟨hmk, he⟩
                · subst he
                  have HA2 := Lib.hid ((fun h => HA2.out.trans (mkR_yes h)) hmk)
                  obtain ⟨o, ho⟩ : ∃ o, o = orAll (intsI cs) := ⟨_, rfl⟩
                  rw [← ho] at HA2 ⊢
                  clear hmk ho
                  rw [Int.toNat_natCast]
                  unfold labV
                  go_upto_region 15 with fail
                  have HR3 := Lib.hid (HR4.out.alloc (.cells #[.int .u8 c, .int .u16 o] 24))
                  have HB3 := Lib.hid (bnext HB4.out (bnew _ (.cells #[.int .u8 c, .int .u16 o] 24)))
                  have hN : (w4.alloc (.cells #[.int .u8 c, .int .u16 o] 24)).rowIs w4.heap.size 24 2 (labRow (c, o)) := labRow_new w4 24 (c, o)
                  obtain ⟨w3, hw3⟩ : ∃ w3, w3 = w4.alloc (.cells #[.int .u8 c, .int .u16 o] 24) := ⟨_, rfl⟩
                  rw [← hw3] at HR3 HB3 hN ⊢
                  clear hw3
                  obtain ⟨gN, hgN⟩ : ∃ gN, gN = w4.heap.size := ⟨_, rfl⟩
                  rw [← hgN] at hN ⊢
                  clear hgN
                  have x0 := labRow0 hN
                  have x1 := labRow1 hN
                  clear hN
                  have f0 := HR3.out.frozen
                  have e00 := labRow0 HR3.out
                  have e01 := labRow1 HR3.out
                  have hrun : (loadVar 24 ⟨gr, 0, none⟩).run Tryd.prog ((w3.setCell ⟨gr, 0, none⟩ (.int .u8 c)).setCell ⟨gr, 1, none⟩ (.int .u16 o)) = .ok (labV (c, o)) ((w3.setCell ⟨gr, 0, none⟩ (.int .u8 c)).setCell ⟨gr, 1, none⟩ (.int .u16 o)) := lab_load (labRow_set HR3.out c o)
                  have hBE := Lib.hid (((HB3.out).setCell (p := ⟨gr, 0, none⟩) (Nat.le_of_eq HSZ.out.symm) (.int .u8 c)).setCell (p := ⟨gr, 1, none⟩) (Nat.le_of_eq HSZ.out.symm) (.int .u16 o))
                  go_wp2_with fail
                  exact bodyPost_ret (v := retR ((c, o), 0)) (by simp [results, Tryd.results6, Act.put, asAddr, hrun, retR]) rfl ⟨by rw [HA2.out], hBE.out⟩
                · subst he
                  have HA2 := Lib.hid ((fun h => HA2.out.trans (mkR_no h)) hmk)
                  clear hmk
                  unfold labV
                  go_upto_region 15 with fail
                  have HR3 := Lib.hid (HR4.out.alloc (.cells #[.int .u8 0, .int .u16 0] 24))
                  have HB3 := Lib.hid (bnext HB4.out (bnew _ (.cells #[.int .u8 0, .int .u16 0] 24)))
                  have hN : (w4.alloc (.cells #[.int .u8 0, .int .u16 0] 24)).rowIs w4.heap.size 24 2 (labRow (0, 0)) := labRow_new w4 24 (0, 0)
                  obtain ⟨w3, hw3⟩ : ∃ w3, w3 = w4.alloc (.cells #[.int .u8 0, .int .u16 0] 24) := ⟨_, rfl⟩
                  rw [← hw3] at HR3 HB3 hN ⊢
                  clear hw3
                  obtain ⟨gN, hgN⟩ : ∃ gN, gN = w4.heap.size := ⟨_, rfl⟩
                  rw [← hgN] at hN ⊢
                  clear hgN
                  have x0 := labRow0 hN
                  have x1 := labRow1 hN
                  clear hN
                  have f0 := HR3.out.frozen
                  have e00 := labRow0 HR3.out
                  have e01 := labRow1 HR3.out
                  have hrun : (loadVar 24 ⟨gr, 0, none⟩).run Tryd.prog ((w3.setCell ⟨gr, 0, none⟩ (.int .u8 0)).setCell ⟨gr, 1, none⟩ (.int .u16 0)) = .ok (labV (0, 0)) ((w3.setCell ⟨gr, 0, none⟩ (.int .u8 0)).setCell ⟨gr, 1, none⟩ (.int .u16 0)) := lab_load (labRow_set HR3.out 0 0)
                  have hBE := Lib.hid (((HB3.out).setCell (p := ⟨gr, 0, none⟩) (Nat.le_of_eq HSZ.out.symm) (.int .u8 0)).setCell (p := ⟨gr, 1, none⟩) (Nat.le_of_eq HSZ.out.symm) (.int .u16 0))
                  go_wp2_with fail
                  exact bodyPost_ret (v := retR ((0, 0), 27)) (by simp [results, Tryd.results6, Act.put, asAddr, hrun, retR]) rfl ⟨by rw [HA2.out], hBE.out⟩
            · have hx' : ∀ h, s[k]'h = b := hx
              have HX58 := Lib.hid h58
              have g44 : ((b.toNat : Int) == 58) = false := by
                rw [beq_eq_false_iff_ne]
                intro e
                exact h58 (UInt8.toNat_inj.mp (by have h : (58 : UInt8).toNat = 58 := rfl; omega))
              have g44n : (b.toNat == 58) = false := by
                rw [beq_eq_false_iff_ne]
                intro e
                exact h58 (UInt8.toNat_inj.mp (by have h : (58 : UInt8).toNat = 58 := rfl; omega))
              clear h58
              go_wp2_with fail
              go_roundw
              case rel => exact ⟨rfl, c + 1, by omega, by go_num, noneTo_next hc99 HN.out HA.out (fun u e => HX58.out (by have h := hT.out.symm.trans e; have h2 := List.append_cancel_left h; exact (List.cons.inj h2).1)), HR1.out, HB1.out⟩
              case measure => simp [intOf]; omega
          · have HB' := Lib.hid hB
            rw [beq_eq_false_iff_ne.mpr hB] at he3
            clear hB
            go_wp2_with fail
            go_roundw
            case rel => exact ⟨rfl, c + 1, by omega, by go_num, noneTo_next hc99 HN.out HA.out (fun u e => HB'.out (by rw [e, HK.out, List.take_left])), HR1.out, HB1.out⟩
            case measure => simp [intOf]; omega
        · have g2 : decide ((k : Int) < L) = false := by rw [decide_eq_false_iff_not]; omega
          have g2n : decide (k < L) = false := by rw [decide_eq_false_iff_not]; omega
          have HX := Lib.hid h2
          clear h2
          go_wp2_with fail
          go_roundw
          case rel => exact ⟨rfl, c + 1, by omega, by go_num, noneTo_next hc99 HN.out HA.out (fun u e => HX.out (by rw [HLL.out, e, List.length_append, HK.out, List.length_cons]; omega)), HR1.out, HB1.out⟩
          case measure => simp [intOf]; omega
    · have g1 : decide ((c : Int) < 100) = false := by rw [decide_eq_false_iff_not]; omega
      have g1n : decide (c < 100) = false := by rw [decide_eq_false_iff_not]; omega
      have HA2 := Lib.hid (show parseR l = ((0, 0), 28) from parse_far (by omega) HN.out)
      have f0 := HR.out.frozen
      have e00 := labRow0 HR.out
      have e01 := labRow1 HR.out
      have hrun : (loadVar 24 ⟨gr, 0, none⟩).run Tryd.prog ((wr.setCell ⟨gr, 0, none⟩ (.int .u8 0)).setCell ⟨gr, 1, none⟩ (.int .u16 0)) = .ok (labV (0, 0)) ((wr.setCell ⟨gr, 0, none⟩ (.int .u8 0)).setCell ⟨gr, 1, none⟩ (.int .u16 0)) := lab_load (labRow_set HR.out 0 0)
      have hBE := Lib.hid (((HB.out).setCell (p := ⟨gr, 0, none⟩) (Nat.le_of_eq HSZ.out.symm) (.int .u8 0)).setCell (p := ⟨gr, 1, none⟩) (Nat.le_of_eq HSZ.out.symm) (.int .u16 0))
      go_wp2_with fail
      exact bodyPost_ret (v := retR ((0, 0), 28)) (by simp [results, Tryd.results6, Act.put, asAddr, hrun, retR]) rfl ⟨by rw [HA2.out], hBE.out⟩
end Go.Proofs.YtmieioaklgdbdaaDoor
