/- The law FdsPlays: its walk. -/
import Derived.Test.YtfnkbgcgajgppaaPlyH
import Derived.Deep.CutBlock
set_option linter.unusedVariables false
set_option linter.unusedSimpArgs false
namespace Go.Proofs.Ytfnkbgcgajgppaa
open Go.RowKit
open Go.Maps (Keyed)

def actZ2 : Array Value := #[.int .u8 0, .int .u8 0, .int .u8 0, .int .i64 0, .int .u8 0, .int .u8 0, .int .u16 0, .int .u16 0, .bool false, .int .u8 0, .int .u16 0, .int .u16 0, .int .i64 0, .int .i64 0, .bool false, .bool false, .bool false, .string ⟨#[]⟩]
theorem slots_make (n : Nat) (hn : n ≤ 64) (w : World) : (Instr.makeSlice 107 (.int .i64 (n : Int)) (.int .i64 (n : Int))).run Try.prog w = .ok (.slice (some ⟨w.heap.size, 0, none⟩) n n) (w.alloc (.cells (madeCells #[.slice none 0 0] n) 112)) := by
  have hinfo : (Try.prog.info? 112).map (fun i => (i.zero, i.size, i.bytes)) = some (some (.agg #[.slice none 0 0]), 1, 24) := by kernel_rfl
  obtain ⟨i, hi, hzz⟩ := Option.map_eq_some_iff.1 hinfo
  simp only [Prod.mk.injEq] at hzz
  obtain ⟨hz, hsz, hb⟩ := hzz
  have := run_make (P := Try.prog) w 107 112 i (.agg #[.slice none 0 0]) Try.underlying107 hi hz .i64 .i64 n n (by omega) (Int.le_refl _) (by rw [hb]; omega) (by omega)
  simpa [Value.cells, hsz] using this
theorem MS.made (w : World) (n base : Nat) (hb : base ≤ w.heap.size) : MS (w.alloc (.cells (madeCells #[.slice none 0 0] n) 112)) w.heap.size n base (fun _ => .slice none 0 0) (fun _ => []) :=
  ⟨World.rowIs_made w (.slice none 0 0) n _, fun l hl => ⟨rfl, .inl ⟨rfl, rfl⟩⟩, fun l m _ _ _ k e => (by cases e), fun l hl => by simp⟩

set_option maxRecDepth 200000 in
set_option maxHeartbeats 64000000 in
theorem fdsPlays_walk (W : World) (v0 v1 : Value) (o0 : Arg Try.prog W 26 v0) (o1 : Arg Try.prog W 106 v1) :
    Calls Try.prog 11 #[v0, v1] W fun e w' => e = .returned (.bool true) ∧ Below W.heap.size W w' := by
  obtain ⟨s, S0⟩ := SizeV.of_arg o0
  have HSV := Lib.hid S0
  obtain ⟨X, tv, rfl, hX, hrest⟩ := S0
  obtain ⟨n, hn⟩ : ∃ n, n = (sizeRegs s).length := ⟨_, rfl⟩
  have HN := Lib.hid hn
  have hn64 : n ≤ 64 := by rw [hn]; exact sizeLe64 s
  have hn1 : 0 < n := by rw [hn, sizeRegs_length]; have := manyOf_le s; omega
  clear hrest hn
  have HX := Lib.hid (show (Try.prog.info? 26).map (·.size) = some X.size by rw [hX]; kernel_rfl)
  clear hX
  obtain ⟨m, xs, hs, hx⟩ := SR.of_arg (e := 110) Try.underlying106 (by rw [show Try.prog.cellsOf 110 = 18 by kernel_rfl]; omega) o1
  have e18 : Try.prog.cellsOf 110 = 18 := by kernel_rfl
  rw [e18] at hs hx
  obtain ⟨A, cap, rfl, hn1', hn2⟩ := hs.form
  have hnm : (m : Int) ≤ 9223372036854775807 := by unfold maxLen at hn2; omega
  have HS := Lib.hid hs
  have HXA := Lib.hid hx
  clear hs hx o0 o1 e18
  have hb0 := bnew W (.cells X 26)
  have ha0 := heap_alloc_last W (.cells X 26)
  have HSX := Lib.hid (SizeV.keep HSV.out hb0)
  clear HSV
  go_enter Try.func11, Try.ntmps11
  go_wp2_with fail
  obtain ⟨G, hG⟩ : ∃ G, G = W.heap.size := ⟨_, rfl⟩
  rw [← hG] at ha0 ⊢
  generalize W.alloc (.cells X 26) = w0 at *
  have HG := Lib.hid hG
  have HB0 := Lib.hid hb0
  have HA0 := Lib.hid ha0
  clear hG hb0 ha0
  refine (fdsAwake_in _).mono ?_; rintro e w1 ⟨rfl, hb1⟩
  have HB1 := Lib.hid (bnext HB0.out hb1)
  have HA1 := Lib.hid (bkeep hb1 HA0.out)
  have HS1 := Lib.hid (SizeV.keep HSX.out hb1)
  clear hb1
  go_wp2_with (refine wpList_load_pieceTo rfl 26 (.tmp 2) rfl (some 27) rfl G 0 rfl X _ (fun j v hj => by rw [Nat.zero_add, rowcell HA1.out]; simpa using hj) Try.underlying26 rfl HX.out ?_)
  refine (sizeRegs_in _ _ s HS1.out).mono ?_; rintro e w2 ⟨hb2, rv, mv, rfl, hr, _⟩
  have HR2 := Lib.hid (SR.of_own hr)
  clear hr
  obtain ⟨RA, rcap, rfl, hc1, hc2⟩ := HR2.out.form
  have HB2 := Lib.hid (bnext HB1.out hb2)
  have HA2 := Lib.hid (bkeep hb2 HA1.out)
  have HS2 := Lib.hid (SizeV.keep HS1.out hb2)
  clear hb2 HA1 HS1
  go_wp2_with (refine wpList_load_pieceTo rfl 26 (.tmp 2) rfl (some 31) rfl G 0 rfl X _ (fun j v hj => by rw [Nat.zero_add, rowcell HA2.out]; simpa using hj) Try.underlying26 rfl HX.out ?_)
  refine (sizeConf_in _ _ s HS2.out).mono ?_; rintro e w3 ⟨hb3, cg, gT, gN, gL, v', m', u', rfl, hcf⟩
  have HP := Lib.hid (hcf.toP (sizeLe _) (sizeOk _))
  have HB3 := Lib.hid (bnext HB2.out hb3)
  have HR3 := Lib.hid (HR2.out.keep hb3)
  clear hcf hb3 HR2
  go_wp2_with fail
  refine (fdsNew_in _ _).mono ?_; rintro e w4 ⟨g, gm, rfl, hg, hgm, hT, hb4⟩
  have HGG := Lib.hid (And.intro hg hgm)
  have HB4 := Lib.hid hb4
  have HT4 := Lib.hid hT
  clear hT hg hgm hb4
  rw [← HN.out]
  have hmk := slots_make n hn64
  have hmm := @run_makeMap Try.prog
  go_wp2_with fail
  clear hmk hmm
  have hbM := bnew w4 (.cells (madeCells #[.slice none 0 0] n) 112)
  have hM0 := MS.made w4 n w3.heap.size HB4.out.size
  have hbW := bnew (w4.alloc (.cells (madeCells #[.slice none 0 0] n) 112)) (.map #[] 0)
  have hW0 := MK.made (P := Try.prog) (k := 69) (kv := markV) (vv := openV) (w4.alloc (.cells (madeCells #[.slice none 0 0] n) 112))
  have hpw : PW w3 ((w4.alloc (.cells (madeCells #[.slice none 0 0] n) 112)).alloc (.map #[] 0)) g gm w4.heap.size (w4.heap.size + 1) (some ⟨cg, 0, none⟩) n (tabOf fun _ => none) (mapOf fun _ => none) (fun _ => .slice none 0 0) (fun _ => []) (fun _ => 0) :=
    ⟨bnext (bnext HB4.out hbM) hbW, (HT4.out.keep hbM).keep hbW, hM0.keep hbW, by rw [World.size_alloc] at hW0; exact hW0, HGG.out.1, HGG.out.2, HB4.out.size, by have := HB4.out.size; omega, by have := HT4.out.mp.lt; omega⟩
  have HPW0 := Lib.hid hpw
  obtain ⟨gM, hgM⟩ : ∃ x, x = w4.heap.size := ⟨_, rfl⟩
  obtain ⟨gW, hgW⟩ : ∃ x, x = w4.heap.size + 1 := ⟨_, rfl⟩
  rw [← hgW, ← hgM] at HPW0
  rw [← hgW, ← hgM]
  generalize (w4.alloc (.cells (madeCells #[.slice none 0 0] n) 112)).alloc (.map #[] 0) = w5 at *
  clear hbM hM0 hbW hW0 hpw hgM hgW HGG HT4 HB4 HA2 HS2 HSX HA0 HG HB0 HB1 HB2
  obtain ⟨zA, hzA⟩ : ∃ z, z = actZ2 := ⟨_, rfl⟩
  have HZA := Lib.hid (show (Try.prog.info? 110).bind (·.zero) = some (.agg zA) by rw [hzA]; kernel_rfl)
  have HZAS := Lib.hid (show zA.size = 18 by rw [hzA]; rfl)
  clear hzA
  go_loopw [40] (fun r wr => ∃ (i : Nat) (G : Nat × Nat → Option (OpenL × Nat)) (V : Nat → Value) (L : Nat → List Nat) (us : Nat → Nat), i ≤ m ∧ r = .int .i64 i ∧ PW w3 wr g gm gM gW (some ⟨cg, 0, none⟩) n (tabOf G) (mapOf G) V L us ∧ PInv n i G L us) (fun r _ => m - (intOf r).toNat)
  case atStart => exact ⟨0, _, _, _, _, by omega, rfl, HPW0.out, PInv.nil n⟩
  case round =>
    obtain ⟨i, G, V, L, us, hi, rfl, hpw, hpi⟩ := hrel
    have HPW := Lib.hid hpw
    have HPI := Lib.hid hpi
    clear hpw hpi
    by_cases hlt : i < m
    · obtain ⟨mm, hok⟩ := HXA.out i hlt
      obtain ⟨hcl, hco, kd, lab, num, off, e0, e1, e2, e3, k1, k2, k3, k4, k5⟩ := act24 hok
      obtain ⟨o, hoo, hoc⟩ := act24o hok
      obtain ⟨C, hC⟩ : ∃ C : Array Value, C = ((xs.drop (i * 18)).take 18).toArray := ⟨_, rfl⟩
      have HCS := Lib.hid (show C.size = 18 by rw [hC]; simpa using hcl)
      have HCO := Lib.hid (show ∀ v ∈ C.toList, v.oneCell' = true by rw [hC]; exact hco)
      have q0 : C[0]? = some (.int .u8 kd) := by rw [hC]; simpa using e0
      have q1 : C[1]? = some (.int .u8 lab) := by rw [hC]; simpa using e1
      have q2 : C[2]? = some (.int .u8 num) := by rw [hC]; simpa using e2
      have q3 : C[3]? = some (.int .i64 off) := by rw [hC]; simpa using e3
      have HQO := Lib.hid (show ∀ j, j < 14 → C[4 + j]? = (openA o)[j]? by rw [hC]; intro j hj; rw [List.getElem?_toArray]; exact hoc j hj)
      have HOO := Lib.hid hoo
      have q17 : C[17]? = some (.string o.path) := (HQO.out 13 (by omega)).trans rfl
      rcases HS.out.cases with ⟨h, _⟩ | ⟨_, ga, o_, cz, hsl, _, _, hga, hca⟩
      · omega
      cases hsl
      have hpc : ∀ j v, C.toList[j]? = some v → wr.cell? ⟨ga, o_ + i * 18 + j, none⟩ = some v := fun j v hj => by
        have hj18 : j < 18 := by
          rcases Nat.lt_or_ge j 18 with h | h
          · exact h
          · rw [List.getElem?_eq_none (by have := HCS.out; simp; omega)] at hj; cases hj
        rw [World.cell?_of_block (w := W) (a := ⟨ga, o_ + i * 18 + j, none⟩) ((HB3.out.trans (HPW.out.bl.mono HB3.out.size)).block ga hga), Nat.add_assoc, hca (i * 18 + j) (by omega)]
        rw [hC] at hj
        simpa [List.getElem?_take_of_lt hj18] using hj
      have HPC := Lib.hid hpc
      clear hpc hca hC hcl hco e0 e1 e2 e3 hok hoo hoc
      have hlti : (i : Int) < m := by omega
      have hCs : (Try.prog.info? 110).map (·.size) = some C.size := by rw [HCS.out]; kernel_rfl
      have HCs := Lib.hid hCs
      clear hCs
      go_wp2_with (first | (refine wpList_load_pieceTo rfl 110 (.tmp 43) rfl (some 44) rfl ga (o_ + i * 18) rfl C _ HPC.out Try.underlying110 rfl HCs.out ?_) | (refine wpList_allocTo rfl 110 rfl (some 11) rfl (.agg zA) HZA.out ?_) | (with_reducible refine wpList_stop none rfl ?_))
      refine Lib.hid ?_
      refine wpList_store_pieceTo rfl 110 _ _ rfl rfl wr.heap.size 0 C (by go_simp) (by go_simp) HCs.out (fun j hj => by rw [Nat.zero_add, rowcell (heap_alloc_last wr _), Array.getElem?_eq_getElem (by rw [HCS.out] at hj; rw [HZAS.out]; exact hj)]; rfl) (fun j hj => rowfree (heap_alloc_last wr _) _) HCO.out (fun wA hwA => ?_)
      obtain ⟨e9, o9⟩ := setCells_whole (cs := C) (heap_alloc_last wr (.cells zA 110)) (by rw [HCS.out, HZAS.out])
      rw [← hwA] at e9 o9
      have hbA : Below wr.heap.size wr wA := bone (bnew wr _) o9 (Nat.le_refl _) (bnew wr (.cells zA 110)).size
      have HPA := Lib.hid (HPW.out.keep hbA)
      obtain ⟨N, hN⟩ : ∃ N, N = wr.heap.size := ⟨_, rfl⟩
      rw [← hN] at e9
      try rw [← hN]
      have HA := Lib.hid e9
      have hcA := rowcell e9
      clear hwA o9 hbA hN e9 HPW
      have c0 := (hcA 0).trans q0
      have c1 := (hcA 1).trans q1
      have c2 := (hcA 2).trans q2
      have c3 := (hcA 3).trans q3
      have c17 := (hcA 17).trans q17
      clear hcA
      by_cases h100 : 100 < i
      · have h100' : (100 : Int) < i := by omega
        go_wp2_with fail
        go_ret
        exact ⟨rfl, HB3.out.trans (HPA.out.bl.mono HB3.out.size)⟩
      · have h100' : ¬ (100 : Int) < i := by omega
        by_cases hpl : 100 < o.path.size
        · have hpl' : (100 : Int) < o.path.size := by omega
          go_wp2_with fail
          go_ret
          exact ⟨rfl, HB3.out.trans (HPA.out.bl.mono HB3.out.size)⟩
        · have hpl' : ¬ (100 : Int) < o.path.size := by omega
          obtain ⟨k, hk⟩ : ∃ k, k = lab % n := ⟨_, rfl⟩
          have hkn : k < n := by rw [hk]; exact Nat.mod_lt _ hn1
          have d1 : (lab : Int).tmod n = k := by rw [Int.tmod_eq_emod_of_nonneg (Int.natCast_nonneg _), hk]; rfl
          have d0 : ((n : Int) == 0) = false := by simpa using (show ¬ n = 0 by omega)
          clear hk
          go_upto_region 14 with fail
          obtain ⟨q, hq⟩ : ∃ q, q = num % 10 := ⟨_, rfl⟩
          have hqi : (num : Int) % 10 = q := by omega
          have hq9 : q ≤ 9 := by omega
          rw [hqi]
          have hbB := bnew wA (.cells #[.int .u8 k, .int .u16 q] 69)
          have HPB := Lib.hid (HPA.out.keep hbB)
          have hB := heap_alloc_last wA (.cells #[.int .u8 k, .int .u16 q] 69)
          have hA2 := bkeep hbB HA.out
          obtain ⟨N2, hN2⟩ : ∃ N, N = wA.heap.size := ⟨_, rfl⟩
          rw [← hN2] at hB
          try rw [← hN2]
          generalize wA.alloc (.cells #[.int .u8 k, .int .u16 q] 69) = wB at *
          have HB := Lib.hid hB
          have HA2 := Lib.hid hA2
          have HQ0 := Lib.hid q0
          have HQ3 := Lib.hid q3
          clear hB hA2 hbB hN2 c0 c1 c2 c3 c17 q0 q1 q2 q3 q17 HA HPA hq hqi
          have cB := rowcell HB.out 1
          have cM := HPB.out.ms.cell hkn
          obtain ⟨Al, cl, hV⟩ := own_form (HPB.out.ms.own k hkn)
          rw [hV] at cM
          go_quiet (fail)
          go_upto_if 76 with fail
          go_cut [14] (fun s14 wx => s14 = .int .i64 (refN (G (k, q))) ∧ Below wB.heap.size wB wx)
          case first =>
            by_cases hql : q < (L k).length
            · obtain ⟨gl, cl', hV', hcl, _, _, hcv, _, _⟩ := HPB.out.ms.at hkn hql
              rw [hV] at hV'
              cases hV'
              have hat := HPI.out.dat k hkn q hql
              have f1 : (q : Int) < (L k).length := by omega
              rw [hat] at hcv
              go_wp2_with fail
              go_quiet (fail)
              go_wp2_with fail
              go_meet
              exact ⟨rfl, bdrewN (bdrewN (Below.refl _ _) _) _⟩
            · have hat := HPI.out.out k q (.inr (by omega))
              have f1 : ¬ (q : Int) < (L k).length := by omega
              go_wp2_with fail
              go_meet
              exact ⟨by rw [hat]; rfl, bdrewN (Below.refl _ _) _⟩
          case rest =>
            obtain ⟨rfl, hbC⟩ := hcut
            have HPC := Lib.hid (HPB.out.keep hbC)
            have HBC := Lib.hid (bkeep hbC HB.out)
            have HAC := Lib.hid (bkeep hbC HA2.out)
            clear hbC cB cM hV HPB HB HA2
            obtain ⟨r, hr⟩ : ∃ r, r = refN (G (k, q)) := ⟨_, rfl⟩
            rw [← hr]
            have HR := Lib.hid hr
            clear hr
            go_at_K
            go_step
            have c0 := (rowcell HAC.out 0).trans HQ0.out
            go_upto_block 2 with fail
            go_cut [] (fun wx => ∃ (G' : Nat × Nat → Option (OpenL × Nat)) (V' : Nat → Value) (L' : Nat → List Nat) (us' : Nat → Nat), PW w3 wx g gm gM gW (some ⟨cg, 0, none⟩) n (tabOf G') (mapOf G') V' L' us' ∧ PInv n (i + 1) G' L' us' ∧ wx.heap[N2]? = some (.cells #[.int .u8 k, .int .u16 q] 69 (0, 0)))
            case first =>
              have hk64 : k < 64 := by omega
              have hi100 : i ≤ 100 := by omega
              have hk255 : (k, q).1 ≤ 255 := by show k ≤ 255; omega
              have hq65 : (k, q).2 ≤ 65535 := by show q ≤ 65535; omega
              have hNE := HPC.out.ne_new HBC.out (by decide) (by decide) (by decide)
              have HNE := Lib.hid hNE
              have hNA := HPC.out.ne_new HAC.out (by decide) (by decide) (by decide)
              have HNA := Lib.hid hNA
              clear hNE hNA c0
              have h6 : ((kd : Int) % 6 == 2) = true ∨ (((kd : Int) % 6 == 2) = false ∧ (((kd : Int) % 6 == 3) = true ∨ (((kd : Int) % 6 == 3) = false ∧ ((kd : Int) % 6 == 4) = true))) ∨ (((kd : Int) % 6 == 2) = false ∧ ((kd : Int) % 6 == 3) = false ∧ ((kd : Int) % 6 == 4) = false ∧ ((kd : Int) % 6 == 5) = true) ∨ (((kd : Int) % 6 == 2) = false ∧ ((kd : Int) % 6 == 3) = false ∧ ((kd : Int) % 6 == 4) = false ∧ ((kd : Int) % 6 == 5) = false) := by
                simp only [beq_iff_eq, beq_eq_false_iff_ne]; omega
              rcases h6 with b2 | ⟨b2, b34⟩ | ⟨b2, b3, b4, b5⟩ | ⟨b2, b3, b4, b5⟩
              · as_aux_lemma =>
                  cases hG : G (k, q) with
                  | none =>
                    have HGN := Lib.hid hG
                    obtain rfl : r = 0 := by rw [HR.out, hG]; rfl
                    clear hG
                    have cB := rowcell HBC.out
                    go_wp2_with fail
                    refine (fdsShare_no HPC.out.tp (tabOf_ok _) (k, q) hk255 hq65 (tabOf_none HGN.out)).mono ?_
                    rintro e wS ⟨rfl, hbS⟩
                    go_wp2_with fail
                    go_meet
                    exact ⟨G, V, L, us, HPC.out.keep hbS, HPI.out.up, bkeep hbS HBC.out⟩
                  | some x =>
                    obtain ⟨o', r'⟩ := x
                    have HGS := Lib.hid hG
                    obtain rfl : r = r' := by rw [HR.out, hG]; rfl
                    clear hG
                    have hps := HPI.out.pos _ _ _ HGS.out
                    have hrp := hps.1
                    have hri := hps.2.1
                    have HOK := Lib.hid hps.2.2
                    have HLT := Lib.hid (HPI.out.lt HGS.out).2
                    clear hps
                    have hr0 : (0 : Int) < r := by omega
                    have cB := rowcell HBC.out
                    go_wp2_with fail
                    refine (fdsShare_yes HPC.out.tp (tabOf_ok _) (k, q) hk64 hq65 (openA o') r (tabOf_some HGS.out) (by omega)).mono ?_
                    rintro e wS ⟨rfl, hT, hD⟩
                    have HPS := Lib.hid (HPC.out.duo hD hT)
                    have HBS := Lib.hid (hD.blk HBC.out HNE.out.1 HNE.out.2.1)
                    clear hT hD cB
                    go_wp2_with fail
                    obtain ⟨gl, cl', hV, hcl, _, _, hcv, hfr, _⟩ := HPS.out.ms.at hkn HLT.out
                    have hget := HPI.out.dat k hkn q HLT.out
                    rw [HGS.out] at hget
                    simp only [refN] at hget
                    rw [hget] at hcv
                    clear hget
                    have cM := HPS.out.ms.cell hkn
                    rw [hV] at cM
                    have hql : (q : Int) < (L k).length := by have := HLT.out; omega
                    have HV := Lib.hid hV
                    have HZ := Lib.hid (show gl ≠ N2 from fun e => HNE.out.2.2.2.2 k hkn (by rw [hV, e]; rfl))
                    clear hV
                    obtain ⟨z, hz⟩ : ∃ z, z = (L k).length := ⟨_, rfl⟩
                    rw [← hz] at cM hql hcl
                    clear hz
                    have cB := rowcell HBS.out
                    have f2 : IntKind.i64.wrap ((r : Int) + 1) = ((r + 1 : Nat) : Int) := by rw [IntKind.wrap_i64]; omega
                    refine wp_region_still_tail 11 (by kernel_rfl) (by kernel_rfl) ?_
                    simp only [List.take_succ_cons, List.take_zero, List.drop_succ_cons, List.drop_zero]
                    change wpStill _ _ (World.drew wS) _ _ _
                    iterate 11 still_step
                    refine wpStill_nil ?_
                    change wpList _ _ _ _ _ (World.drew wS)
                    go_wp2_with fail
                    go_meet
                    exact ⟨putF G (k, q) (o', r + 1), V, _, us, ((HPS.out.keep (drewb wS)).cellL hkn HLT.out (r + 1) HV.out).same HGS.out, HPI.out.up.share HGS.out (r + 1) (by omega) (by omega), (one_setCell (World.drew wS) gl q (.int .i64 ((r + 1 : Nat) : Int))).blk (bkeep (drewb wS) HBS.out) (fun e => HZ.out (by cases e; rfl))⟩
              · as_aux_lemma =>
                  go_upto_if 151 with fail
                  go_cut [151] (fun s151 wx => s151 = .bool true ∧ wx = wc)
                  case first =>
                    rcases b34 with b3 | ⟨b3, b4⟩
                    · go_wp2_with fail
                      go_meet
                      exact ⟨rfl, rfl⟩
                    · go_wp2_with fail
                      go_meet
                      exact ⟨rfl, rfl⟩
                  case rest =>
                    obtain ⟨rfl, rfl⟩ := hcut
                    clear b34
                    go_at_K
                    go_step
                    cases hG : G (k, q) with
                    | none =>
                      have HGN := Lib.hid hG
                      obtain rfl : r = 0 := by rw [HR.out, hG]; rfl
                      clear hG
                      have cB := rowcell HBC.out
                      have HLK := Lib.hid (show lkV openV (openV openN) false (mapOf G (k, q)) = .agg (openA openN) by rw [lk_open]; rw [HGN.out]; rfl)
                      obtain ⟨zO, hzO⟩ : ∃ z, z = openA openN := ⟨_, rfl⟩
                      have HZO := Lib.hid (show (Try.prog.info? 78).bind (·.zero) = some (.agg zO) by rw [hzO]; exact zOpen)
                      have HZOS := Lib.hid (show zO.size = 14 by rw [hzO]; rfl)
                      clear hzO
                      have HEQ := Lib.hid (eqOpen openN openN_ok)
                      go_wp2_with fail
                      refine (fdsDrop_no HPC.out.tp (tabOf_ok _) (k, q) hk255 hq65 (tabOf_none HGN.out)).mono ?_
                      rintro e wS ⟨rfl, hbS⟩
                      have HPS := Lib.hid (HPC.out.keep hbS)
                      have HBS := Lib.hid (bkeep hbS HBC.out)
                      clear hbS cB
                      rw [← openN_eq]
                      obtain ⟨Y, hY⟩ : ∃ Y, Y = openA openN := ⟨_, rfl⟩
                      rw [← hY] at HEQ HLK
                      rw [← hY]
                      have HYS := Lib.hid (show Y.size = 14 by rw [hY]; rfl)
                      have HYO := Lib.hid (show ∀ v ∈ Y.toList, v.oneCell' = true by rw [hY]; exact (openA_ok _).2)
                      clear hY
                      go_wp2_with (first | (refine wpList_allocTo rfl 78 rfl (some 15) rfl (.agg zO) HZO.out ?_) | (with_reducible refine wpList_stop none rfl ?_))
                      refine Lib.hid ?_
                      refine wpList_store_pieceTo rfl 78 _ _ rfl rfl wS.heap.size 0 Y (by go_simp) (by go_simp) (by rw [HYS.out]; kernel_rfl) (fun j hj => by rw [Nat.zero_add, rowcell (heap_alloc_last wS _), Array.getElem?_eq_getElem (by rw [HYS.out] at hj; show j < zO.size; rw [HZOS.out]; exact hj)]; rfl) (fun j hj => rowfree (heap_alloc_last wS _) _) HYO.out (fun wT hwT => ?_)
                      obtain ⟨e9, o9⟩ := setCells_whole (cs := Y) (heap_alloc_last wS (.cells (Value.agg zO).cells 78)) (by rw [HYS.out]; show 14 = zO.size; rw [HZOS.out])
                      rw [← hwT] at e9 o9
                      have hbT : Below wS.heap.size wS wT := bone (bnew wS _) o9 (Nat.le_refl _) (bnew wS (.cells zO 78)).size
                      have HPT := Lib.hid (HPS.out.keep hbT)
                      have HBT := Lib.hid (bkeep hbT HBS.out)
                      obtain ⟨M, hM⟩ : ∃ M, M = wS.heap.size := ⟨_, rfl⟩
                      rw [← hM] at e9
                      try rw [← hM]
                      have HMT := Lib.hid e9
                      clear hwT o9 hbT hM e9
                      go_wp2_with fail
                      have cB := rowcell HBT.out
                      have cY := rowcell HMT.out
                      refine wp_region_still_lit (by kernel_rfl) (by kernel_rfl) ?_
                      change wpStill _ _ (World.drew wT) _ _ _
                      iterate 5 still_step
                      refine still_by (by kernel_rfl) (.agg Y) (some 165) rfl (load_piece 78 _ rfl M 0 (by go_simp) Y _ (fun j v hv => by rw [Nat.zero_add]; show wT.cell? ⟨M, j, none⟩ = some v; rw [cY]; simpa using hv) Try.underlying78 rfl (by rw [HYS.out]; kernel_rfl)) ?_
                      iterate 2 still_step
                      obtain ⟨lk, hkey⟩ := key_id (k, q) hk255 hq65
                      refine still_lookup (by kernel_rfl) (some 168) rfl (HPT.out.keep (drewb wT)).mp keyedId markV_inj Try.underlying108 zOpen _ _ false rfl (by go_simp) (k, q) (by go_simp; try rfl) hkey (.agg Y) HLK.out ?_
                      refine still_by (by kernel_rfl) (.bool false) (some 169) rfl (exec_neq (xs := Y) (ys := Y) rfl (by go_simp) (by go_simp) (by kernel_rfl) (HEQ.out _)) ?_
                      iterate 1 still_step
                      refine wpStill_nil ?_
                      go_simp
                      have HPU := Lib.hid (HPT.out.keep (drewb wT))
                      have HBU := Lib.hid (bkeep (drewb wT) HBT.out)
                      clear cY cB HPT HBT
                      go_wp2_with fail
                      go_meet
                      exact ⟨G, V, L, us, HPU.out, HPI.out.up, HBU.out⟩
                    | some x =>
                      obtain ⟨o', r'⟩ := x
                      have HGS := Lib.hid hG
                      obtain rfl : r = r' := by rw [HR.out, hG]; rfl
                      clear hG
                      have hps := HPI.out.pos _ _ _ HGS.out
                      have hrp := hps.1
                      have hri := hps.2.1
                      have HOK := Lib.hid hps.2.2
                      have HLT := Lib.hid (HPI.out.lt HGS.out).2
                      clear hps
                      have hr0 : (0 : Int) < r := by omega
                      have cB := rowcell HBC.out
                      by_cases hr1 : r = 1
                      · subst hr1
                        have HLK := Lib.hid (show lkV openV (openV openN) false (mapOf G (k, q)) = .agg (openA o') by rw [lk_open]; rw [HGS.out]; rfl)
                        obtain ⟨zO, hzO⟩ : ∃ z, z = openA openN := ⟨_, rfl⟩
                        have HZO := Lib.hid (show (Try.prog.info? 78).bind (·.zero) = some (.agg zO) by rw [hzO]; exact zOpen)
                        have HZOS := Lib.hid (show zO.size = 14 by rw [hzO]; rfl)
                        clear hzO
                        have HEQ := Lib.hid (eqOpen o' HOK.out)
                        go_wp2_with fail
                        refine (fdsDrop_last HPC.out.tp (tabOf_ok _) (k, q) hk64 hq65 (openA o') 1 (tabOf_some HGS.out) rfl (by omega) (HPI.out.us_pos HGS.out) (by have := HPI.out.us_le hkn; show us k < 65536; omega)).mono ?_
                        rintro e wS ⟨rfl, hT, hD⟩
                        have HPS := Lib.hid (HPC.out.duo hD hT)
                        have HBS := Lib.hid (hD.blk HBC.out HNE.out.1 HNE.out.2.1)
                        clear hT hD cB
                        obtain ⟨Y, hY⟩ : ∃ Y, Y = openA o' := ⟨_, rfl⟩
                        rw [← hY] at HEQ HLK
                        rw [← hY]
                        have HYS := Lib.hid (show Y.size = 14 by rw [hY]; rfl)
                        have HYO := Lib.hid (show ∀ v ∈ Y.toList, v.oneCell' = true by rw [hY]; exact (openA_ok _).2)
                        clear hY
                        go_wp2_with (first | (refine wpList_allocTo rfl 78 rfl (some 15) rfl (.agg zO) HZO.out ?_) | (with_reducible refine wpList_stop none rfl ?_))
                        refine Lib.hid ?_
                        refine wpList_store_pieceTo rfl 78 _ _ rfl rfl wS.heap.size 0 Y (by go_simp) (by go_simp) (by rw [HYS.out]; kernel_rfl) (fun j hj => by rw [Nat.zero_add, rowcell (heap_alloc_last wS _), Array.getElem?_eq_getElem (by rw [HYS.out] at hj; show j < zO.size; rw [HZOS.out]; exact hj)]; rfl) (fun j hj => rowfree (heap_alloc_last wS _) _) HYO.out (fun wT hwT => ?_)
                        obtain ⟨e9, o9⟩ := setCells_whole (cs := Y) (heap_alloc_last wS (.cells (Value.agg zO).cells 78)) (by rw [HYS.out]; show 14 = zO.size; rw [HZOS.out])
                        rw [← hwT] at e9 o9
                        have hbT : Below wS.heap.size wS wT := bone (bnew wS _) o9 (Nat.le_refl _) (bnew wS (.cells zO 78)).size
                        have HPT := Lib.hid (HPS.out.keep hbT)
                        have HBT := Lib.hid (bkeep hbT HBS.out)
                        obtain ⟨M, hM⟩ : ∃ M, M = wS.heap.size := ⟨_, rfl⟩
                        rw [← hM] at e9
                        try rw [← hM]
                        have HMT := Lib.hid e9
                        clear hwT o9 hbT hM e9
                        go_wp2_with fail
                        have cB := rowcell HBT.out
                        have cY := rowcell HMT.out
                        refine wp_region_still_lit (by kernel_rfl) (by kernel_rfl) ?_
                        change wpStill _ _ (World.drew wT) _ _ _
                        iterate 5 still_step
                        refine still_by (by kernel_rfl) (.agg Y) (some 165) rfl (load_piece 78 _ rfl M 0 (by go_simp) Y _ (fun j v hv => by rw [Nat.zero_add]; show wT.cell? ⟨M, j, none⟩ = some v; rw [cY]; simpa using hv) Try.underlying78 rfl (by rw [HYS.out]; kernel_rfl)) ?_
                        iterate 2 still_step
                        obtain ⟨lk, hkey⟩ := key_id (k, q) hk255 hq65
                        refine still_lookup (by kernel_rfl) (some 168) rfl (HPT.out.keep (drewb wT)).mp keyedId markV_inj Try.underlying108 zOpen _ _ false rfl (by go_simp) (k, q) (by go_simp; try rfl) hkey (.agg Y) HLK.out ?_
                        refine still_by (by kernel_rfl) (.bool false) (some 169) rfl (exec_neq (xs := Y) (ys := Y) rfl (by go_simp) (by go_simp) (by kernel_rfl) (HEQ.out _)) ?_
                        iterate 1 still_step
                        refine wpStill_nil ?_
                        go_simp
                        have HPU := Lib.hid (HPT.out.keep (drewb wT))
                        have HBU := Lib.hid (bkeep (drewb wT) HBT.out)
                        clear cY cB HPT HBT
                        obtain ⟨wU, hwU⟩ : ∃ w, w = World.drew wT := ⟨_, rfl⟩
                        rw [← hwU] at HPU HBU
                        try rw [← hwU]
                        clear hwU
                        go_wp2_with fail
                        obtain ⟨gl, cl', hV, hcl, _, _, hcv, hfr, _⟩ := HPU.out.ms.at hkn HLT.out
                        have hget := HPI.out.dat k hkn q HLT.out
                        rw [HGS.out] at hget
                        simp only [refN] at hget
                        rw [hget] at hcv
                        clear hget
                        have cM := HPU.out.ms.cell hkn
                        rw [hV] at cM
                        have hql : (q : Int) < (L k).length := by have := HLT.out; omega
                        have HV := Lib.hid hV
                        have HZ := Lib.hid (show gl ≠ N2 from fun e => HNE.out.2.2.2.2 k hkn (by rw [hV, e]; rfl))
                        clear hV
                        obtain ⟨z, hz⟩ : ∃ z, z = (L k).length := ⟨_, rfl⟩
                        rw [← hz] at cM hql hcl
                        clear hz
                        have cB := rowcell HBU.out
                        have f2 : IntKind.i64.wrap ((1 : Int) - 1) = 0 := by decide
                        refine wp_region_still_tail 11 (by kernel_rfl) (by kernel_rfl) ?_
                        simp only [List.take_succ_cons, List.take_zero, List.drop_succ_cons, List.drop_zero]
                        change wpStill _ _ (World.drew wU) _ _ _
                        iterate 11 still_step
                        refine wpStill_nil ?_
                        change wpList _ _ _ _ _ (World.drew wU)
                        go_upto_region 38 with fail
                        have hpV : PW w3 (World.drew (World.setCell wU ⟨gl, q, none⟩ (.int .i64 0))) g gm gM gW (some ⟨cg, 0, none⟩) n (delF (tabOf G) (k, q)) (mapOf G) V (setL L k ((L k).set q 0)) (setN us k (us k - 1)) := (HPU.out.cellL hkn HLT.out 0 HV.out).keep (drewb _)
                        have hbV := bkeep (drewb _) ((one_setCell wU gl q (.int .i64 0)).blk HBU.out (fun e => HZ.out (by cases e; rfl)))
                        obtain ⟨wV, hwV⟩ : ∃ w, w = World.drew (World.setCell wU ⟨gl, q, none⟩ (.int .i64 0)) := ⟨_, rfl⟩
                        rw [← hwV] at hpV hbV
                        rw [← hwV]
                        have HPV := Lib.hid hpV
                        have HBV := Lib.hid hbV
                        clear hwV hpV hbV cB cM hcv hfr
                        have cB := rowcell HBV.out
                        go_wp2_with (with_reducible refine wpList_stop none rfl ?_)
                        refine Lib.hid ?_
                        refine wpList_delete_mk (by kernel_rfl) none rfl HPV.out.mp keyedId markV_inj Try.underlying108 _ _ rfl (by go_simp) (k, q) (by go_simp; try rfl) hkey ?_
                        intro wX hmk hoX
                        have HPX := Lib.hid (HPV.out.map hoX hmk).delG
                        have HBX := Lib.hid (hoX.blk HBV.out (fun e => HNE.out.2.2.2.1 (by cases e; rfl)))
                        clear hmk hoX cB
                        go_wp2_with fail
                        go_meet
                        exact ⟨delF G (k, q), V, _, _, HPX.out, HPI.out.up.drop HGS.out, HBX.out⟩
                      · skip
                        have HLK := Lib.hid (show lkV openV (openV openN) false (mapOf G (k, q)) = .agg (openA o') by rw [lk_open]; rw [HGS.out]; rfl)
                        obtain ⟨zO, hzO⟩ : ∃ z, z = openA openN := ⟨_, rfl⟩
                        have HZO := Lib.hid (show (Try.prog.info? 78).bind (·.zero) = some (.agg zO) by rw [hzO]; exact zOpen)
                        have HZOS := Lib.hid (show zO.size = 14 by rw [hzO]; rfl)
                        clear hzO
                        have HEQ := Lib.hid (eqOpen o' HOK.out)
                        have b1 : ((r : Int) == 1) = false := by simp; omega
                        go_wp2_with fail
                        refine (fdsDrop_more HPC.out.tp (tabOf_ok _) (k, q) hk64 hq65 (openA o') r (tabOf_some HGS.out) (by omega) (by omega)).mono ?_
                        rintro e wS ⟨rfl, hT, hD⟩
                        have HPS := Lib.hid (HPC.out.duo hD hT)
                        have HBS := Lib.hid (hD.blk HBC.out HNE.out.1 HNE.out.2.1)
                        clear hT hD cB
                        obtain ⟨Y, hY⟩ : ∃ Y, Y = openA o' := ⟨_, rfl⟩
                        rw [← hY] at HEQ HLK
                        rw [← hY]
                        have HYS := Lib.hid (show Y.size = 14 by rw [hY]; rfl)
                        have HYO := Lib.hid (show ∀ v ∈ Y.toList, v.oneCell' = true by rw [hY]; exact (openA_ok _).2)
                        clear hY
                        go_wp2_with (first | (refine wpList_allocTo rfl 78 rfl (some 15) rfl (.agg zO) HZO.out ?_) | (with_reducible refine wpList_stop none rfl ?_))
                        refine Lib.hid ?_
                        refine wpList_store_pieceTo rfl 78 _ _ rfl rfl wS.heap.size 0 Y (by go_simp) (by go_simp) (by rw [HYS.out]; kernel_rfl) (fun j hj => by rw [Nat.zero_add, rowcell (heap_alloc_last wS _), Array.getElem?_eq_getElem (by rw [HYS.out] at hj; show j < zO.size; rw [HZOS.out]; exact hj)]; rfl) (fun j hj => rowfree (heap_alloc_last wS _) _) HYO.out (fun wT hwT => ?_)
                        obtain ⟨e9, o9⟩ := setCells_whole (cs := Y) (heap_alloc_last wS (.cells (Value.agg zO).cells 78)) (by rw [HYS.out]; show 14 = zO.size; rw [HZOS.out])
                        rw [← hwT] at e9 o9
                        have hbT : Below wS.heap.size wS wT := bone (bnew wS _) o9 (Nat.le_refl _) (bnew wS (.cells zO 78)).size
                        have HPT := Lib.hid (HPS.out.keep hbT)
                        have HBT := Lib.hid (bkeep hbT HBS.out)
                        obtain ⟨M, hM⟩ : ∃ M, M = wS.heap.size := ⟨_, rfl⟩
                        rw [← hM] at e9
                        try rw [← hM]
                        have HMT := Lib.hid e9
                        clear hwT o9 hbT hM e9
                        go_wp2_with fail
                        have cB := rowcell HBT.out
                        have cY := rowcell HMT.out
                        refine wp_region_still_lit (by kernel_rfl) (by kernel_rfl) ?_
                        change wpStill _ _ (World.drew wT) _ _ _
                        iterate 5 still_step
                        refine still_by (by kernel_rfl) (.agg Y) (some 165) rfl (load_piece 78 _ rfl M 0 (by go_simp) Y _ (fun j v hv => by rw [Nat.zero_add]; show wT.cell? ⟨M, j, none⟩ = some v; rw [cY]; simpa using hv) Try.underlying78 rfl (by rw [HYS.out]; kernel_rfl)) ?_
                        iterate 2 still_step
                        obtain ⟨lk, hkey⟩ := key_id (k, q) hk255 hq65
                        refine still_lookup (by kernel_rfl) (some 168) rfl (HPT.out.keep (drewb wT)).mp keyedId markV_inj Try.underlying108 zOpen _ _ false rfl (by go_simp) (k, q) (by go_simp; try rfl) hkey (.agg Y) HLK.out ?_
                        refine still_by (by kernel_rfl) (.bool false) (some 169) rfl (exec_neq (xs := Y) (ys := Y) rfl (by go_simp) (by go_simp) (by kernel_rfl) (HEQ.out _)) ?_
                        iterate 1 still_step
                        refine wpStill_nil ?_
                        go_simp
                        have HPU := Lib.hid (HPT.out.keep (drewb wT))
                        have HBU := Lib.hid (bkeep (drewb wT) HBT.out)
                        clear cY cB HPT HBT
                        obtain ⟨wU, hwU⟩ : ∃ w, w = World.drew wT := ⟨_, rfl⟩
                        rw [← hwU] at HPU HBU
                        try rw [← hwU]
                        clear hwU
                        go_wp2_with fail
                        obtain ⟨gl, cl', hV, hcl, _, _, hcv, hfr, _⟩ := HPU.out.ms.at hkn HLT.out
                        have hget := HPI.out.dat k hkn q HLT.out
                        rw [HGS.out] at hget
                        simp only [refN] at hget
                        rw [hget] at hcv
                        clear hget
                        have cM := HPU.out.ms.cell hkn
                        rw [hV] at cM
                        have hql : (q : Int) < (L k).length := by have := HLT.out; omega
                        have HV := Lib.hid hV
                        have HZ := Lib.hid (show gl ≠ N2 from fun e => HNE.out.2.2.2.2 k hkn (by rw [hV, e]; rfl))
                        clear hV
                        obtain ⟨z, hz⟩ : ∃ z, z = (L k).length := ⟨_, rfl⟩
                        rw [← hz] at cM hql hcl
                        clear hz
                        have cB := rowcell HBU.out
                        have f2 : IntKind.i64.wrap ((r : Int) - 1) = ((r - 1 : Nat) : Int) := by rw [IntKind.wrap_i64]; omega
                        refine wp_region_still_tail 11 (by kernel_rfl) (by kernel_rfl) ?_
                        simp only [List.take_succ_cons, List.take_zero, List.drop_succ_cons, List.drop_zero]
                        change wpStill _ _ (World.drew wU) _ _ _
                        iterate 11 still_step
                        refine wpStill_nil ?_
                        change wpList _ _ _ _ _ (World.drew wU)
                        go_wp2_with fail
                        go_meet
                        exact ⟨putF G (k, q) (o', r - 1), V, _, us, ((HPU.out.keep (drewb wU)).cellL hkn HLT.out (r - 1) HV.out).same HGS.out, HPI.out.up.share HGS.out (r - 1) (by omega) (by omega), (one_setCell (World.drew wU) gl q (.int .i64 ((r - 1 : Nat) : Int))).blk (bkeep (drewb wU) HBU.out) (fun e => HZ.out (by cases e; rfl))⟩
              · as_aux_lemma =>
                  cases hG : G (k, q) with
                  | none =>
                    have HGN := Lib.hid hG
                    obtain rfl : r = 0 := by rw [HR.out, hG]; rfl
                    clear hG
                    have cB := rowcell HBC.out
                    have c3 := (rowcell HAC.out 3).trans HQ3.out
                    go_wp2_with fail
                    refine (fdsSeek_no HPC.out.tp (tabOf_ok _) (k, q) hk255 hq65 off (tabOf_none HGN.out)).mono ?_
                    rintro e wS ⟨rfl, hbS⟩
                    clear c3 cB
                    go_wp2_with fail
                    go_meet
                    exact ⟨G, V, L, us, HPC.out.keep hbS, HPI.out.up, bkeep hbS HBC.out⟩
                  | some x =>
                    obtain ⟨o', r'⟩ := x
                    have HGS := Lib.hid hG
                    obtain rfl : r = r' := by rw [HR.out, hG]; rfl
                    clear hG
                    have hps := HPI.out.pos _ _ _ HGS.out
                    have hrp := hps.1
                    have hri := hps.2.1
                    have HOK := Lib.hid hps.2.2
                    have HLT := Lib.hid (HPI.out.lt HGS.out).2
                    clear hps
                    have hr0 : (0 : Int) < r := by omega
                    have cB := rowcell HBC.out
                    have HLK := Lib.hid (show lkV openV (openV openN) false (mapOf G (k, q)) = .agg (openA o') by rw [lk_open]; rw [HGS.out]; rfl)

                    obtain ⟨zO, hzO⟩ : ∃ z, z = openA openN := ⟨_, rfl⟩
                    have HZO := Lib.hid (show (Try.prog.info? 78).bind (·.zero) = some (.agg zO) by rw [hzO]; exact zOpen)
                    have HZOS := Lib.hid (show zO.size = 14 by rw [hzO]; rfl)
                    clear hzO

                    have c3 := (rowcell HAC.out 3).trans HQ3.out
                    go_wp2_with fail
                    refine (fdsSeek_yes HPC.out.tp (tabOf_ok _) (k, q) hk64 hq65 off (openA o') r (tabOf_some HGS.out) (by omega)).mono ?_
                    rintro e wS ⟨rfl, hT, hD⟩
                    rw [openA_off] at hT
                    have HPS := Lib.hid (HPC.out.duo hD hT)
                    have HBS := Lib.hid (hD.blk HBC.out HNE.out.1 HNE.out.2.1)
                    have HAS := Lib.hid (hD.blk HAC.out HNA.out.1 HNA.out.2.1)
                    clear hT hD cB c3
                    obtain ⟨Y, hY⟩ : ∃ Y, Y = openA o' := ⟨_, rfl⟩
                    rw [← hY] at HLK

                    have HYS := Lib.hid (show Y.size = 14 by rw [hY]; rfl)
                    have HYO := Lib.hid (show ∀ v ∈ Y.toList, v.oneCell' = true by rw [hY]; exact (openA_ok _).2)

                    have HY := Lib.hid hY
                    clear hY
                    have cB := rowcell HBS.out
                    have c3 := (rowcell HAS.out 3).trans HQ3.out
                    obtain ⟨lk, hkey⟩ := key_id (k, q) hk255 hq65
                    go_wp2_with (with_reducible refine wpList_stop (some 198) rfl ?_)
                    refine Lib.hid ?_
                    refine wpList_lookup_mk (by kernel_rfl) (some 198) rfl HPS.out.mp keyedId markV_inj Try.underlying108 zOpen _ _ false rfl (by go_simp) (k, q) (by go_simp; try rfl) hkey (.agg Y) HLK.out ?_
                    go_simp

                    go_wp2_with (first | (refine wpList_allocTo rfl 78 rfl (some 17) rfl (.agg zO) HZO.out ?_) | (with_reducible refine wpList_stop none rfl ?_))
                    refine Lib.hid ?_
                    refine wpList_store_pieceTo rfl 78 _ _ rfl rfl wS.heap.size 0 Y (by go_simp) (by go_simp) (by rw [HYS.out]; kernel_rfl) (fun j hj => by rw [Nat.zero_add, rowcell (heap_alloc_last wS _), Array.getElem?_eq_getElem (by rw [HYS.out] at hj; show j < zO.size; rw [HZOS.out]; exact hj)]; rfl) (fun j hj => rowfree (heap_alloc_last wS _) _) HYO.out (fun wT hwT => ?_)
                    obtain ⟨e9, o9⟩ := setCells_whole (cs := Y) (heap_alloc_last wS (.cells (Value.agg zO).cells 78)) (by rw [HYS.out]; show 14 = zO.size; rw [HZOS.out])
                    rw [← hwT] at e9 o9
                    have hbT : Below wS.heap.size wS wT := bone (bnew wS _) o9 (Nat.le_refl _) (bnew wS (.cells zO 78)).size
                    obtain ⟨M, hM⟩ : ∃ M, M = wS.heap.size := ⟨_, rfl⟩
                    rw [← hM] at e9
                    try rw [← hM]
                    have HMT := Lib.hid e9
                    have HMG := Lib.hid hM
                    clear hwT o9 hM e9

                    have HAT := Lib.hid (bkeep hbT HAS.out)
                    clear cB c3
                    have c3 := (rowcell HAT.out 3).trans HQ3.out
                    have cY := rowfree HMT.out
                    have cY9 : wT.cell? ⟨M, 9, none⟩ = some (.int .i64 o'.off) := by rw [rowcell HMT.out, HY.out]; rfl
                    go_upto_region 44 with fail
                    have o5 := one_setCell wT M 9 (.int .i64 off)
                    have hb5 : Below wS.heap.size wS (wT.setCell ⟨M, 9, none⟩ (.int .i64 off)) := bone hbT o5 (by rw [HMG.out]; exact Nat.le_refl _) hbT.size
                    have hn5 := heap_setCell_same HMT.out (.int .i64 off) (off := 9) (by rw [HYS.out]; omega)
                    rw [HY.out, openA_off] at hn5
                    have HP5 := Lib.hid (HPS.out.keep hb5)
                    have HB5 := Lib.hid (bkeep hb5 HBS.out)
                    obtain ⟨Z, hZ⟩ : ∃ Z, Z = openA { o' with off := off } := ⟨_, rfl⟩
                    rw [← hZ] at hn5
                    have HZ := Lib.hid hZ
                    have HZS := Lib.hid (show Z.size = 14 by rw [hZ]; rfl)
                    have HN5 := Lib.hid hn5
                    generalize wT.setCell ⟨M, 9, none⟩ (.int .i64 off) = w5 at *
                    clear hbT hb5 hn5 hZ o5 c3 cY cY9
                    have cB := rowcell HB5.out
                    go_wp2_with (first | (refine wpList_load_pieceTo rfl 78 (.tmp 17) rfl (some 204) rfl M 0 rfl Z _ (fun j v hj => by rw [Nat.zero_add, rowcell HN5.out]; simpa using hj) Try.underlying78 rfl (by rw [HZS.out]; kernel_rfl) ?_) | (with_reducible refine wpList_stop none rfl ?_))
                    refine Lib.hid ?_
                    refine wpList_update_mk (by kernel_rfl) rfl HP5.out.mp keyedId markV_inj Try.underlying108 _ _ _ rfl (by go_simp) (k, q) (by go_simp; try rfl) hkey { o' with off := off } (by go_simp; rw [HZ.out]; rfl) ?_
                    intro wX hmk hoX
                    have HPX := Lib.hid (HP5.out.map hoX hmk).putG
                    have HBX := Lib.hid (hoX.blk HB5.out (fun e => HNE.out.2.2.2.1 (by cases e; rfl)))
                    clear hmk hoX cB
                    go_wp2_with fail
                    go_meet
                    exact ⟨putF G (k, q) ({ o' with off := off }, r), V, L, us, HPX.out, HPI.out.up.turn HGS.out (okOpen_off HOK.out off (i64_wf (by omega))), HBX.out⟩
              · as_aux_lemma =>
                  have hk' : k < (sizeRegs s).length := by rw [← HN.out]; exact hkn
                  have h64 : (sizeRegs s).length ≤ 64 := by rw [← HN.out]; exact hn64
                  obtain ⟨op, hop⟩ : ∃ p, p = (sizeRegs s)[k].op := ⟨_, rfl⟩
                  have hop15 : op ≤ 15 := by rw [hop, sizeOp]; omega
                  have HOP := Lib.hid hop
                  obtain ⟨gr, ofr, capr, hRA, _, _, hgr, hrc⟩ := RS_cases HR3.out (by omega)
                  cases hRA
                  have hc7 := (hrc k hk').2.2.2.2.2.2.2.1
                  rw [← hop] at hc7
                  have HC7 := Lib.hid hc7
                  have HGR := Lib.hid hgr
                  have hgc : ∀ w', Below w3.heap.size w3 w' → w'.cell? ⟨gr, ofr + k * 9 + 7, none⟩ = some (.int .i64 op) := fun w' hb => by
                    rw [World.cell?_of_block (w := w3) (hb.block gr HGR.out)]; exact HC7.out
                  have HGC := Lib.hid hgc
                  clear hop hc7 hgc hgr hrc
                  obtain ⟨Y, hY⟩ : ∃ Y, Y = openA o := ⟨_, rfl⟩

                  have HYS := Lib.hid (show Y.size = 14 by rw [hY]; rfl)
                  have HYO := Lib.hid (show ∀ v ∈ Y.toList, v.oneCell' = true by rw [hY]; exact (openA_ok _).2)

                  have HYC := Lib.hid (show ∀ (w' : World), w'.heap[N]? = some (.cells C 110 (0, 0)) → ∀ j v, Y.toList[j]? = some v → w'.cell? ⟨N, 4 + j, none⟩ = some v from fun w' hw' j v hj => by
                    have hj14 : j < 14 := by
                      rcases Nat.lt_or_ge j 14 with h | h
                      · exact h
                      · rw [List.getElem?_eq_none (by have := HYS.out; simp; omega)] at hj; cases hj
                    rw [rowcell hw', HQO.out j hj14, ← hY]
                    simpa using hj)
                  have HY := Lib.hid hY
                  clear hY
                  have heq : us k = posCount (L k) := HPI.out.us k hkn
                  have HUS := Lib.hid heq
                  have hul := HPI.out.us_le hkn
                  have hll := HPI.out.len k hkn
                  clear heq
                  have hkw : IntKind.u8.wrap (k : Int) = k := by rw [IntKind.wrap_u8]; omega
                  have hkn' : (k : Int) < n := by omega
                  go_wp2_with (first | (refine wpList_load_pieceTo rfl 78 (.tmp 92) rfl (some 93) rfl N 4 rfl Y _ (HYC.out _ HAC.out) Try.underlying78 rfl (by rw [HYS.out]; kernel_rfl) ?_))
                  by_cases hroom : us k < op
                  · skip
                    have hbase : w3.heap.size ≤ wc.heap.size := HPC.out.bl.size
                    rcases firstZero (L k) with ⟨j, hj, hj0, hjl⟩ | hall
                    · as_aux_lemma =>
                        have HJ := Lib.hid hj
                        have HJ0 := Lib.hid hj0
                        have HJL := Lib.hid hjl
                        clear hj0 hjl
                        have hj100 : j ≤ 100 := by omega
                        have hjw : IntKind.u16.wrap (j : Int) = j := by rw [IntKind.wrap_u16]; omega
                        have hn0 : ¬ ((j : Int) < 0) := by omega
                        skip
                        refine (fdsTake_ok HP.out HPC.out.bl HPC.out.tp HPC.out.g0 HPC.out.gm0 k j hk' h64 (by rw [← HOP.out]; exact hroom) (by omega) (by omega) (tabOf_none (HPI.out.zero hkn HJ.out HJ0.out)) (fun m hm => HPI.out.more hkn (by have := HJ.out; omega) (HJL.out m hm)) (tabOf_ok _) Y (by rw [HY.out]; exact openA_ok o)).mono ?_
                        rintro e wS ⟨rfl, hT, hD⟩
                        have HPS := Lib.hid (HPC.out.duo hD hT)
                        have HBS := Lib.hid (hD.blk HBC.out HNE.out.1 HNE.out.2.1)
                        have HAS := Lib.hid (hD.blk HAC.out HNA.out.1 HNA.out.2.1)
                        clear hT hD
                        rw [show markV (k, j) = .agg #[.int .u8 k, .int .u16 j] from rfl]
                        have hbQ := bnew wS (.cells #[.int .u8 k, .int .u16 j] 69)
                        have hq1 := heap_alloc_last wS (.cells #[.int .u8 k, .int .u16 j] 69)
                        have HPQ := Lib.hid (HPS.out.keep hbQ)
                        have HBQ := Lib.hid (bkeep hbQ HBS.out)
                        have HAQ := Lib.hid (bkeep hbQ HAS.out)
                        go_upto_region 18 with fail
                        obtain ⟨M, hM⟩ : ∃ M, M = wS.heap.size := ⟨_, rfl⟩
                        rw [← hM] at hq1
                        try rw [← hM]
                        generalize wS.alloc (.cells #[.int .u8 k, .int .u16 j] 69) = wQ at *
                        have HMQ := Lib.hid hq1
                        clear hbQ hq1 hM
                        have c1 := HGC.out (World.drew wQ) (HPQ.out.bl.trans ((drewb wQ).mono HPQ.out.bl.size))
                        obtain ⟨Al, cl, hV⟩ := own_form (HPQ.out.ms.own k hkn)
                        refine wp_region_still_tail 8 (by kernel_rfl) (by kernel_rfl) ?_
                        simp only [List.take_succ_cons, List.take_zero, List.drop_succ_cons, List.drop_zero]
                        change wpStill _ _ (World.drew wQ) _ _ _
                        iterate 8 still_step
                        refine wpStill_nil ?_
                        change wpList _ _ _ _ _ (World.drew wQ)
                        have HPR := Lib.hid (HPQ.out.keep (drewb wQ))
                        have HBR := Lib.hid (bkeep (drewb wQ) HBQ.out)
                        have HAR := Lib.hid (bkeep (drewb wQ) HAQ.out)
                        have HMR := Lib.hid (bkeep (drewb wQ) HMQ.out)
                        go_wp2_with fail
                        clear c1
                        have hNF := HPR.out.ne_new HBR.out (by decide) (by decide) (by decide)
                        have hNB := HPR.out.ne_new HAR.out (by decide) (by decide) (by decide)
                        have hND := HPR.out.ne_new HMR.out (by decide) (by decide) (by decide)
                        have hown := fun x (hx : (V k).ownBlock = some x) => HPR.out.own_ne hkn hx
                        refine (refTake_hole HPR.out.ms k hkn op (by rw [← HUS.out]; exact hroom) j HJ.out HJ0.out HJL.out).mono ?_
                        rintro e wF ⟨rfl, hms, hft⟩
                        have HPF := Lib.hid (HPR.out.foot hkn hft hms)
                        have HBF := Lib.hid (hft.blk HBR.out hNF.2.2.1 (hNF.2.2.2.2 k hkn))
                        have HAF := Lib.hid (hft.blk HAR.out hNB.2.2.1 (hNB.2.2.2.2 k hkn))
                        have HMF := Lib.hid (hft.blk HMR.out hND.2.2.1 (hND.2.2.2.2 k hkn))
                        have HNF := Lib.hid hNF
                        clear hms hft hNF hNB hND hown
                        have cq := rowcell HMF.out
                        have eqq : ∀ w : World, (Op.equalIn 10000 69 (.agg #[.int .u8 k, .int .u16 j]) (.agg #[.int .u8 k, .int .u16 j])).run Try.prog w = .ok true w := fun w => by have := eqId (k, j) (k, j) (by omega) (by omega) (by omega) (by omega) w; rwa [decide_eq_true rfl] at this
                        go_upto_region 24 with fail
                        obtain ⟨lk, hkey⟩ := key_id (k, j) hk255 (by show j ≤ 65535; omega)
                        go_wp2_with (first | (refine wpList_load_pieceTo rfl 78 (.tmp 128) rfl (some 129) rfl N 4 rfl Y _ (HYC.out _ HAF.out) Try.underlying78 rfl (by rw [HYS.out]; kernel_rfl) ?_) | (with_reducible refine wpList_stop none rfl ?_))
                        refine Lib.hid ?_
                        refine wpList_update_mk (by kernel_rfl) rfl HPF.out.mp keyedId markV_inj Try.underlying108 _ _ _ rfl (by go_simp) (k, j) (by go_simp; try rfl) hkey o (by go_simp; rw [HY.out]; rfl) ?_
                        intro wX hmk hoX
                        have HPX := Lib.hid (HPF.out.map hoX hmk)
                        have HBX := Lib.hid (hoX.blk HBF.out (fun e => HNF.out.2.2.2.1 (by cases e; rfl)))
                        clear hmk hoX cq
                        go_wp2_with fail
                        go_meet
                        exact ⟨putF G (k, j) (o, 1), V, _, _, (by have := HPX.out; rw [HY.out] at this; exact this.putG), HPI.out.up.take hkn HJ.out HJ0.out o HOO.out (by omega), HBX.out⟩
                    · as_aux_lemma =>
                        obtain ⟨j, hj⟩ : ∃ j, j = (L k).length := ⟨_, rfl⟩
                        have HJ := Lib.hid hj
                        have HJL := Lib.hid hall
                        clear hall
                        have hj100 : j ≤ 100 := by omega
                        have hjw : IntKind.u16.wrap (j : Int) = j := by rw [IntKind.wrap_u16]; omega
                        have hn0 : ¬ ((j : Int) < 0) := by omega
                        clear hj
                        refine (fdsTake_ok HP.out HPC.out.bl HPC.out.tp HPC.out.g0 HPC.out.gm0 k j hk' h64 (by rw [← HOP.out]; exact hroom) (by omega) (by omega) (tabOf_none (HPI.out.out k j (.inr (by rw [HJ.out]; exact Nat.le_refl _)))) (fun m hm => HPI.out.more hkn (by rw [← HJ.out]; exact hm) (HJL.out m (by rw [← HJ.out]; exact hm))) (tabOf_ok _) Y (by rw [HY.out]; exact openA_ok o)).mono ?_
                        rintro e wS ⟨rfl, hT, hD⟩
                        have HPS := Lib.hid (HPC.out.duo hD hT)
                        have HBS := Lib.hid (hD.blk HBC.out HNE.out.1 HNE.out.2.1)
                        have HAS := Lib.hid (hD.blk HAC.out HNA.out.1 HNA.out.2.1)
                        clear hT hD
                        rw [show markV (k, j) = .agg #[.int .u8 k, .int .u16 j] from rfl]
                        have hbQ := bnew wS (.cells #[.int .u8 k, .int .u16 j] 69)
                        have hq1 := heap_alloc_last wS (.cells #[.int .u8 k, .int .u16 j] 69)
                        have HPQ := Lib.hid (HPS.out.keep hbQ)
                        have HBQ := Lib.hid (bkeep hbQ HBS.out)
                        have HAQ := Lib.hid (bkeep hbQ HAS.out)
                        go_upto_region 18 with fail
                        obtain ⟨M, hM⟩ : ∃ M, M = wS.heap.size := ⟨_, rfl⟩
                        rw [← hM] at hq1
                        try rw [← hM]
                        generalize wS.alloc (.cells #[.int .u8 k, .int .u16 j] 69) = wQ at *
                        have HMQ := Lib.hid hq1
                        clear hbQ hq1 hM
                        have c1 := HGC.out (World.drew wQ) (HPQ.out.bl.trans ((drewb wQ).mono HPQ.out.bl.size))
                        obtain ⟨Al, cl, hV⟩ := own_form (HPQ.out.ms.own k hkn)
                        refine wp_region_still_tail 8 (by kernel_rfl) (by kernel_rfl) ?_
                        simp only [List.take_succ_cons, List.take_zero, List.drop_succ_cons, List.drop_zero]
                        change wpStill _ _ (World.drew wQ) _ _ _
                        iterate 8 still_step
                        refine wpStill_nil ?_
                        change wpList _ _ _ _ _ (World.drew wQ)
                        have HPR := Lib.hid (HPQ.out.keep (drewb wQ))
                        have HBR := Lib.hid (bkeep (drewb wQ) HBQ.out)
                        have HAR := Lib.hid (bkeep (drewb wQ) HAQ.out)
                        have HMR := Lib.hid (bkeep (drewb wQ) HMQ.out)
                        go_wp2_with fail
                        clear c1
                        have hNF := HPR.out.ne_new HBR.out (by decide) (by decide) (by decide)
                        have hNB := HPR.out.ne_new HAR.out (by decide) (by decide) (by decide)
                        have hND := HPR.out.ne_new HMR.out (by decide) (by decide) (by decide)
                        have hown := fun x (hx : (V k).ownBlock = some x) => HPR.out.own_ne hkn hx
                        refine (refTake_app HPR.out.ms HPR.out.bl.size k hkn op (by rw [← HUS.out]; exact hroom) HJL.out (by omega)).mono ?_
                        rintro e wF ⟨rfl, ⟨vF, hms⟩, hft⟩
                        rw [← HJ.out]
                        have HPF := Lib.hid (HPR.out.foot hkn hft hms)
                        have HBF := Lib.hid (hft.blk HBR.out hNF.2.2.1 (hNF.2.2.2.2 k hkn))
                        have HAF := Lib.hid (hft.blk HAR.out hNB.2.2.1 (hNB.2.2.2.2 k hkn))
                        have HMF := Lib.hid (hft.blk HMR.out hND.2.2.1 (hND.2.2.2.2 k hkn))
                        have HNF := Lib.hid hNF
                        clear hms hft hNF hNB hND hown
                        have cq := rowcell HMF.out
                        have eqq : ∀ w : World, (Op.equalIn 10000 69 (.agg #[.int .u8 k, .int .u16 j]) (.agg #[.int .u8 k, .int .u16 j])).run Try.prog w = .ok true w := fun w => by have := eqId (k, j) (k, j) (by omega) (by omega) (by omega) (by omega) w; rwa [decide_eq_true rfl] at this
                        go_upto_region 24 with fail
                        obtain ⟨lk, hkey⟩ := key_id (k, j) hk255 (by show j ≤ 65535; omega)
                        go_wp2_with (first | (refine wpList_load_pieceTo rfl 78 (.tmp 128) rfl (some 129) rfl N 4 rfl Y _ (HYC.out _ HAF.out) Try.underlying78 rfl (by rw [HYS.out]; kernel_rfl) ?_) | (with_reducible refine wpList_stop none rfl ?_))
                        refine Lib.hid ?_
                        refine wpList_update_mk (by kernel_rfl) rfl HPF.out.mp keyedId markV_inj Try.underlying108 _ _ _ rfl (by go_simp) (k, j) (by go_simp; try rfl) hkey o (by go_simp; rw [HY.out]; rfl) ?_
                        intro wX hmk hoX
                        have HPX := Lib.hid (HPF.out.map hoX hmk)
                        have HBX := Lib.hid (hoX.blk HBF.out (fun e => HNF.out.2.2.2.1 (by cases e; rfl)))
                        clear hmk hoX cq
                        go_wp2_with fail
                        go_meet
                        exact ⟨putF G (k, j) (o, 1), _, _, _, (by have := HPX.out; rw [HY.out] at this; exact this.putG), (by have := HPI.out.up.app hkn o HOO.out (by omega) (by omega); rw [HJ.out]; exact this), HBX.out⟩
                  · skip
                    refine (fdsTake_full HP.out HPC.out.bl HPC.out.tp k hk' h64 (by rw [← HOP.out]; omega) Y).mono ?_
                    rintro e wS ⟨rfl, hbS⟩
                    have HPS := Lib.hid (HPC.out.keep hbS)
                    have HBS := Lib.hid (bkeep hbS HBC.out)
                    have HAS := Lib.hid (bkeep hbS HAC.out)
                    clear hbS
                    rw [show markV (0, 0) = .agg #[.int .u8 0, .int .u16 0] from rfl]
                    have hbQ := bnew wS (.cells #[.int .u8 0, .int .u16 0] 69)
                    have hq1 := heap_alloc_last wS (.cells #[.int .u8 0, .int .u16 0] 69)
                    have HPQ := Lib.hid (HPS.out.keep hbQ)
                    have HBQ := Lib.hid (bkeep hbQ HBS.out)
                    have HAQ := Lib.hid (bkeep hbQ HAS.out)
                    go_upto_region 18 with fail
                    obtain ⟨M, hM⟩ : ∃ M, M = wS.heap.size := ⟨_, rfl⟩
                    rw [← hM] at hq1
                    try rw [← hM]
                    generalize wS.alloc (.cells #[.int .u8 0, .int .u16 0] 69) = wQ at *
                    have HMQ := Lib.hid hq1
                    clear hbQ hq1 hM
                    have c1 := HGC.out (World.drew wQ) (HPQ.out.bl.trans ((drewb wQ).mono HPQ.out.bl.size))
                    obtain ⟨Al, cl, hV⟩ := own_form (HPQ.out.ms.own k hkn)
                    refine wp_region_still_tail 8 (by kernel_rfl) (by kernel_rfl) ?_
                    simp only [List.take_succ_cons, List.take_zero, List.drop_succ_cons, List.drop_zero]
                    change wpStill _ _ (World.drew wQ) _ _ _
                    iterate 8 still_step
                    refine wpStill_nil ?_
                    change wpList _ _ _ _ _ (World.drew wQ)
                    have HPR := Lib.hid (HPQ.out.keep (drewb wQ))
                    have HBR := Lib.hid (bkeep (drewb wQ) HBQ.out)
                    have HAR := Lib.hid (bkeep (drewb wQ) HAQ.out)
                    have HMR := Lib.hid (bkeep (drewb wQ) HMQ.out)
                    go_wp2_with fail
                    clear c1
                    refine (refTake_full HPR.out.ms k hkn op (by rw [← HUS.out]; omega)).mono ?_
                    rintro e wF ⟨rfl, rfl⟩
                    have cq := rowcell HMR.out
                    have eqq : ∀ w : World, (Op.equalIn 10000 69 (.agg #[.int .u8 0, .int .u16 0]) (.agg #[.int .u8 0, .int .u16 0])).run Try.prog w = .ok true w := fun w => by have := eqId (0, 0) (0, 0) (by omega) (by omega) (by omega) (by omega) w; rwa [decide_eq_true rfl] at this
                    go_wp2_with fail
                    go_roundw
                    case rel => exact ⟨i + 1, G, V, L, us, by omega, by go_num, HPR.out, HPI.out.up⟩
                    case measure => simp [intOf]; omega
            case rest =>
              as_aux_lemma =>
                obtain ⟨G', V', L', us', hpw, hpi, hb2⟩ := hcut
                have HPD := Lib.hid hpw
                have HPJ := Lib.hid hpi
                have HBD := Lib.hid hb2
                clear hpw hpi hb2 c0 HPC HBC HAC HPI
                go_at_K
                go_step
                have hk64 : k < 64 := by omega
                have hk255 : (k, q).1 ≤ 255 := by show k ≤ 255; omega
                have hq65 : (k, q).2 ≤ 65535 := by show q ≤ 65535; omega
                have cB := rowcell HBD.out
                have HLK := Lib.hid (lk_open (G := G') (k, q))
                have HEQ := Lib.hid (eqOpen (opOf (G' (k, q))) (HPJ.out.okOp (k, q)))

                obtain ⟨zO, hzO⟩ : ∃ z, z = openA openN := ⟨_, rfl⟩
                have HZO := Lib.hid (show (Try.prog.info? 78).bind (·.zero) = some (.agg zO) by rw [hzO]; exact zOpen)
                have HZOS := Lib.hid (show zO.size = 14 by rw [hzO]; rfl)
                clear hzO

                obtain ⟨b, hb⟩ : ∃ b, b = (G' (k, q)).isSome := ⟨_, rfl⟩
                obtain ⟨x, hx⟩ : ∃ x, x = refN (G' (k, q)) := ⟨_, rfl⟩
                have HXR := Lib.hid hx
                have HBX := Lib.hid (show b = decide (0 < x) by rw [hb, hx]; exact HPJ.out.isPos (k, q))
                have hx100 : x ≤ 101 := by rw [hx]; have := HPJ.out.refLe (k, q); omega
                have HBI := Lib.hid hb
                clear hx hb
                go_wp2_with fail
                refine (fdsGet_any HPD.out.tp (k, q) hk255 hq65).mono ?_
                rintro e wS ⟨rfl, hbS⟩
                rw [← HBI.out]
                have HPS := Lib.hid (HPD.out.keep hbS)
                have HBS := Lib.hid (bkeep hbS HBD.out)
                clear hbS cB
                obtain ⟨Y, hY⟩ : ∃ Y, Y = openA (opOf (G' (k, q))) := ⟨_, rfl⟩
                rw [← hY] at HLK HEQ
                rw [← hY]

                have HYS := Lib.hid (show Y.size = 14 by rw [hY]; rfl)
                have HYO := Lib.hid (show ∀ v ∈ Y.toList, v.oneCell' = true by rw [hY]; exact (openA_ok _).2)

                clear hY

                go_wp2_with (first | (refine wpList_allocTo rfl 78 rfl (some 21) rfl (.agg zO) HZO.out ?_) | (with_reducible refine wpList_stop none rfl ?_))
                refine Lib.hid ?_
                refine wpList_store_pieceTo rfl 78 _ _ rfl rfl wS.heap.size 0 Y (by go_simp) (by go_simp) (by rw [HYS.out]; kernel_rfl) (fun j hj => by rw [Nat.zero_add, rowcell (heap_alloc_last wS _), Array.getElem?_eq_getElem (by rw [HYS.out] at hj; show j < zO.size; rw [HZOS.out]; exact hj)]; rfl) (fun j hj => rowfree (heap_alloc_last wS _) _) HYO.out (fun wT hwT => ?_)
                obtain ⟨e9, o9⟩ := setCells_whole (cs := Y) (heap_alloc_last wS (.cells (Value.agg zO).cells 78)) (by rw [HYS.out]; show 14 = zO.size; rw [HZOS.out])
                rw [← hwT] at e9 o9
                have hbT : Below wS.heap.size wS wT := bone (bnew wS _) o9 (Nat.le_refl _) (bnew wS (.cells zO 78)).size
                obtain ⟨M, hM⟩ : ∃ M, M = wS.heap.size := ⟨_, rfl⟩
                rw [← hM] at e9
                try rw [← hM]
                have HMT := Lib.hid e9
                have HMG := Lib.hid hM
                clear hwT o9 hM e9

                have HPT := Lib.hid (HPS.out.keep hbT)
                have HBT := Lib.hid (bkeep hbT HBS.out)
                clear hbT HMG
                obtain ⟨lk, hkey⟩ := key_id (k, q) hk255 hq65
                have HKE := Lib.hid hkey
                clear hkey
                go_upto_if 223 with fail
                go_cut [223] (fun s223 wx => s223 = .bool false ∧ Below wT.heap.size wT wx)
                case first =>
                  rcases Nat.eq_zero_or_pos x with hx0 | hx0
                  · subst hx0
                    obtain rfl : b = false := by rw [HBX.out]; simp
                    refine wp_region_held (S := fun w' => Below wT.heap.size wT w') (by kernel_rfl) ?_
                    change wpAnyH _ _ _ _ _ _ _ _ (World.drew _)
                    have hS := drewb wT
                    refine takeH 0 (.agg Y) (some 211) rfl rfl (by kernel_rfl) (by kernel_rfl) (by kernel_rfl) (fun _ _ _ h => h) (yi_piece (by kernel_rfl) 78 _ rfl M 0 (by go_simp) Y _ (fun w hw j v hv => by rw [Nat.zero_add, rowcell (bkeep hw HMT.out)]; simpa using hv) Try.underlying78 rfl (by rw [HYS.out]; kernel_rfl)) hS ?_
                    refine takeH 1 (.map (some gW)) (some 212) rfl rfl (by kernel_rfl) (by kernel_rfl) (by kernel_rfl) (fun _ _ _ h => h) (.inl ⟨by kernel_rfl, fun w _ => by go_simp⟩) hS ?_
                    refine takeH 2 (.agg #[.int .u8 k, .int .u16 q]) (some 213) rfl rfl (by kernel_rfl) (by kernel_rfl) (by kernel_rfl) (fun _ _ _ h => h) (yi_piece (by kernel_rfl) 69 _ rfl N2 0 (by go_simp) #[.int .u8 k, .int .u16 q] _ (fun w hw j v hv => by rw [Nat.zero_add, rowcell (bkeep hw HBT.out)]; simpa using hv) Try.underlying69 rfl (by kernel_rfl)) hS ?_
                    refine takeH 3 (.agg Y) (some 214) rfl rfl (by kernel_rfl) (by kernel_rfl) (by kernel_rfl) (fun _ _ _ h => h) (.inl ⟨by kernel_rfl, fun w hw => by rw [← HLK.out]; exact (HPT.out.keep hw).mp.exec_lookup keyedId markV_inj Try.underlying108 zOpen _ _ false rfl (by go_simp) (k, q) (by go_simp; try rfl) HKE.out⟩) hS ?_
                    refine takeH 4 (.bool false) (some 215) rfl rfl (by kernel_rfl) (by kernel_rfl) (by kernel_rfl) (fun _ _ _ h => h) (.inl ⟨by kernel_rfl, fun w _ => exec_neq (xs := Y) (ys := Y) rfl (by go_simp) (by go_simp) (by kernel_rfl) (HEQ.out w)⟩) hS ?_
                    go_simp
                    refine takeH 5 (.bool false) (some 216) rfl rfl (by kernel_rfl) (by kernel_rfl) (by kernel_rfl) (fun _ _ _ h => h) (.inl ⟨by kernel_rfl, fun w _ => by go_simp⟩) hS ?_
                    refine takeH 6 (.bool false) (some 217) rfl rfl (by kernel_rfl) (by kernel_rfl) (by kernel_rfl) (fun _ _ _ h => h) (.inl ⟨by kernel_rfl, fun w _ => by go_simp⟩) hS ?_
                    refine takeH 7 (.pointer (some ⟨g, 0, none⟩)) (some 218) rfl rfl (by kernel_rfl) (by kernel_rfl) (by kernel_rfl) (fun _ _ _ h => h) (.inl ⟨by kernel_rfl, fun w _ => by go_simp⟩) hS ?_
                    refine takeH 8 (.agg #[.int .u8 k, .int .u16 q]) (some 219) rfl rfl (by kernel_rfl) (by kernel_rfl) (by kernel_rfl) (fun _ _ _ h => h) (yi_piece (by kernel_rfl) 69 _ rfl N2 0 (by go_simp) #[.int .u8 k, .int .u16 q] _ (fun w hw j v hv => by rw [Nat.zero_add, rowcell (bkeep hw HBT.out)]; simpa using hv) Try.underlying69 rfl (by kernel_rfl)) hS ?_
                    refine callH 9 rfl (by kernel_rfl) (by kernel_rfl) (some 220) rfl 51 #[.pointer (some ⟨g, 0, none⟩), markV (k, q)] ?hrun ((fdsRefs_any (HPT.out.keep hS).tp (k, q) hk64 hq65 (by rw [← HXR.out]; omega)).mono ?_)
                    case hrun => go_simp; try rfl
                    rintro e w5 ⟨he, hb5⟩
                    rw [← HXR.out] at he
                    have hS5 := bnext hS hb5
                    refine ⟨_, he, hS5, ?_⟩
                    clear he
                    go_simp
                    refine takeH 10 (.bool false) (some 221) rfl rfl (by kernel_rfl) (by kernel_rfl) (by kernel_rfl) (fun _ _ _ h => h) (.inl ⟨by kernel_rfl, fun w _ => by go_simp⟩) hS5 ?_
                    refine takeH 11 (.bool false) (some 222) rfl rfl (by kernel_rfl) (by kernel_rfl) (by kernel_rfl) (fun _ _ _ h => h) (.inl ⟨by kernel_rfl, fun w _ => by go_simp⟩) hS5 ?_
                    refine takeH 12 (.bool false) (some 223) rfl rfl (by kernel_rfl) (by kernel_rfl) (by kernel_rfl) (fun _ _ _ h => h) (.inl ⟨by kernel_rfl, fun w _ => by go_simp⟩) hS5 ?_
                    refine wpAnyH_done (by kernel_rfl) ?_ _
                    go_simp
                    go_wp2_with fail
                    go_meet
                    exact ⟨rfl, hS5⟩
                  · have hx0' : (0 : Int) < x := by omega
                    obtain rfl : b = true := by rw [HBX.out]; simp; omega
                    refine wp_region_held (S := fun w' => Below wT.heap.size wT w') (by kernel_rfl) ?_
                    change wpAnyH _ _ _ _ _ _ _ _ (World.drew _)
                    have hS := drewb wT
                    refine takeH 0 (.agg Y) (some 211) rfl rfl (by kernel_rfl) (by kernel_rfl) (by kernel_rfl) (fun _ _ _ h => h) (yi_piece (by kernel_rfl) 78 _ rfl M 0 (by go_simp) Y _ (fun w hw j v hv => by rw [Nat.zero_add, rowcell (bkeep hw HMT.out)]; simpa using hv) Try.underlying78 rfl (by rw [HYS.out]; kernel_rfl)) hS ?_
                    refine takeH 1 (.map (some gW)) (some 212) rfl rfl (by kernel_rfl) (by kernel_rfl) (by kernel_rfl) (fun _ _ _ h => h) (.inl ⟨by kernel_rfl, fun w _ => by go_simp⟩) hS ?_
                    refine takeH 2 (.agg #[.int .u8 k, .int .u16 q]) (some 213) rfl rfl (by kernel_rfl) (by kernel_rfl) (by kernel_rfl) (fun _ _ _ h => h) (yi_piece (by kernel_rfl) 69 _ rfl N2 0 (by go_simp) #[.int .u8 k, .int .u16 q] _ (fun w hw j v hv => by rw [Nat.zero_add, rowcell (bkeep hw HBT.out)]; simpa using hv) Try.underlying69 rfl (by kernel_rfl)) hS ?_
                    refine takeH 3 (.agg Y) (some 214) rfl rfl (by kernel_rfl) (by kernel_rfl) (by kernel_rfl) (fun _ _ _ h => h) (.inl ⟨by kernel_rfl, fun w hw => by rw [← HLK.out]; exact (HPT.out.keep hw).mp.exec_lookup keyedId markV_inj Try.underlying108 zOpen _ _ false rfl (by go_simp) (k, q) (by go_simp; try rfl) HKE.out⟩) hS ?_
                    refine takeH 4 (.bool false) (some 215) rfl rfl (by kernel_rfl) (by kernel_rfl) (by kernel_rfl) (fun _ _ _ h => h) (.inl ⟨by kernel_rfl, fun w _ => exec_neq (xs := Y) (ys := Y) rfl (by go_simp) (by go_simp) (by kernel_rfl) (HEQ.out w)⟩) hS ?_
                    go_simp
                    refine takeH 5 (.bool false) (some 216) rfl rfl (by kernel_rfl) (by kernel_rfl) (by kernel_rfl) (fun _ _ _ h => h) (.inl ⟨by kernel_rfl, fun w _ => by go_simp⟩) hS ?_
                    refine takeH 6 (.bool true) (some 217) rfl rfl (by kernel_rfl) (by kernel_rfl) (by kernel_rfl) (fun _ _ _ h => h) (.inl ⟨by kernel_rfl, fun w _ => by go_simp⟩) hS ?_
                    refine takeH 7 (.pointer (some ⟨g, 0, none⟩)) (some 218) rfl rfl (by kernel_rfl) (by kernel_rfl) (by kernel_rfl) (fun _ _ _ h => h) (.inl ⟨by kernel_rfl, fun w _ => by go_simp⟩) hS ?_
                    refine takeH 8 (.agg #[.int .u8 k, .int .u16 q]) (some 219) rfl rfl (by kernel_rfl) (by kernel_rfl) (by kernel_rfl) (fun _ _ _ h => h) (yi_piece (by kernel_rfl) 69 _ rfl N2 0 (by go_simp) #[.int .u8 k, .int .u16 q] _ (fun w hw j v hv => by rw [Nat.zero_add, rowcell (bkeep hw HBT.out)]; simpa using hv) Try.underlying69 rfl (by kernel_rfl)) hS ?_
                    refine callH 9 rfl (by kernel_rfl) (by kernel_rfl) (some 220) rfl 51 #[.pointer (some ⟨g, 0, none⟩), markV (k, q)] ?hrun ((fdsRefs_any (HPT.out.keep hS).tp (k, q) hk64 hq65 (by rw [← HXR.out]; omega)).mono ?_)
                    case hrun => go_simp; try rfl
                    rintro e w5 ⟨he, hb5⟩
                    rw [← HXR.out] at he
                    have hS5 := bnext hS hb5
                    refine ⟨_, he, hS5, ?_⟩
                    clear he
                    go_simp
                    refine takeH 10 (.bool true) (some 221) rfl rfl (by kernel_rfl) (by kernel_rfl) (by kernel_rfl) (fun _ _ _ h => h) (.inl ⟨by kernel_rfl, fun w _ => by go_simp⟩) hS5 ?_
                    refine takeH 11 (.bool false) (some 222) rfl rfl (by kernel_rfl) (by kernel_rfl) (by kernel_rfl) (fun _ _ _ h => h) (.inl ⟨by kernel_rfl, fun w _ => by go_simp⟩) hS5 ?_
                    refine takeH 12 (.bool false) (some 223) rfl rfl (by kernel_rfl) (by kernel_rfl) (by kernel_rfl) (fun _ _ _ h => h) (.inl ⟨by kernel_rfl, fun w _ => by go_simp⟩) hS5 ?_
                    refine wpAnyH_done (by kernel_rfl) ?_ _
                    go_simp
                    go_wp2_with fail
                    go_meet
                    exact ⟨rfl, hS5⟩
                case rest =>
                  obtain ⟨rfl, hbE⟩ := hcut
                  have HPE := Lib.hid (HPT.out.keep hbE)
                  clear hbE HPS HBS HPT HBT HMT HYS HYO HEQ HLK HKE HBX HXR HBI HPD HBD
                  go_at_K
                  go_step
                  obtain ⟨wo, hwo⟩ : ∃ wo, wo = wc := ⟨_, rfl⟩
                  subst hwo
                  go_wp2_with fail
                  go_loopw [226] (fun r wx => ∃ j : Nat, j ≤ n ∧ r = .int .i64 j ∧ Below wo.heap.size wo wx) (fun r _ => n - (intOf r).toNat)
                  case atStart => exact ⟨0, by omega, rfl, Below.refl _ _⟩
                  case round =>
                    obtain ⟨j, hj, rfl, hbx⟩ := hrel
                    have HPX := Lib.hid (HPE.out.keep hbx)
                    have HBX := Lib.hid hbx
                    clear hbx
                    by_cases hjn : j < n
                    · have f1 : (j : Int) < n := by omega
                      have hus : us' j = posCount (L' j) := HPJ.out.us j hjn
                      have HUS := Lib.hid hus
                      clear hus
                      go_upto_region 51 with fail
                      obtain ⟨u, hu⟩ : ∃ u, u = us' j := ⟨_, rfl⟩
                      have cU : ∀ d os, Calls Try.prog 32 #[.pointer (some ⟨g, 0, none⟩), .int .i64 j] (Go.Sort.grow (redrawn wr d) os) fun e w'' => e = .returned (.int .i64 u) ∧ ∃ p : Regrown, w'' = Go.Sort.grow (redrawn wr p.d) p.os := fun d os =>
                        Calls.regrown_of ((fdsUsed_in (HPX.out.keep (below_regrown wr d os)).tp j (by omega)).mono fun e w h => ⟨by rw [hu]; exact h.1, by rw [← h.2]; exact Below.refl _ _⟩)
                      have cM : ∀ d os, Calls Try.prog 52 #[.pointer (some ⟨gM, j, none⟩)] (Go.Sort.grow (redrawn wr d) os) fun e w'' => e = .returned (.int .i64 u) ∧ ∃ p : Regrown, w'' = Go.Sort.grow (redrawn wr p.d) p.os := fun d os =>
                        Calls.regrown_of ((refUsed_in (HPX.out.keep (below_regrown wr d os)).ms j hjn).mono fun e w h => ⟨by rw [hu, HUS.out]; exact h.1, by rw [← h.2]; exact Below.refl _ _⟩)
                      have CU := Lib.hid cU
                      have CM := Lib.hid cM
                      clear cU cM hu
                      refine wp_region_quiet_below (by kernel_rfl) (by kernel_rfl) ?_
                      repeat (go_big_quiet_step (first
                        | (go_at_call 32; with_reducible exact CU.out _ _)
                        | (go_at_call 52; with_reducible exact CM.out _ _)))
                      refine wpQuiet_nil ?_
                      intro w6 hw6
                      have hb6 : Below wr.heap.size wr w6 := by obtain ⟨p, rfl⟩ := hw6; exact below_regrown wr p.d p.os
                      have HB6 := Lib.hid (HBX.out.trans (hb6.mono HBX.out.size))
                      clear hw6 hb6
                      go_wp2_with fail
                      go_roundw
                      case rel => exact ⟨j + 1, by omega, by go_num, HB6.out⟩
                      case measure => simp [intOf]; omega
                    · obtain rfl : j = n := by omega
                      have f1 : ¬ ((j : Int) < j) := by omega
                      go_wp2_with fail
                      go_roundw
                      case rel => exact ⟨i + 1, G', V', L', us', by omega, by go_num, HPX.out, HPJ.out⟩
                      case measure => simp [intOf]; omega
    · have hlti : ¬ ((i : Int) < m) := by omega
      go_wp2_with fail
      go_ret
      exact ⟨rfl, HB3.out.trans (HPW.out.bl.mono HB3.out.size)⟩
end Go.Proofs.Ytfnkbgcgajgppaa
