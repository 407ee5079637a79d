/- CpuBoots: its walk. -/
import Derived.Test.YtapcbfeifeobhaaCpU4
set_option linter.unusedVariables false
set_option linter.unusedSimpArgs false
namespace Go.Proofs.Ytapcbfeifeobhaa
open Go.RowKit
open Go.Maps (Keyed)
theorem ne_types {w : World} {a b : Nat} {c c' : Array Value} {t t' : TypeId} {fr fr' : Nat × Nat} (h : w.heap[a]? = some (.cells c t fr)) (h' : w.heap[b]? = some (.cells c' t' fr')) (ht : t ≠ t') : a ≠ b := fun e => by
  subst e
  rw [h] at h'
  injection h' with h'
  injection h' with _ h' _
  exact ht h'
theorem MemW.chg {S : Nat → Prop} {w w' : World} {g gm gs base m : Nat} {a : Option Addr} {us : Nat → Nat} {v : Value} {F : Nat × Nat → Option (Nat → Nat)} {mem : Nat → Nat} (h : MemW w g gm gs base m a us v F mem) (c : Chg S w w') (h1 : ¬ S g) (h2 : ¬ S gm) (h3 : ¬ S gs) (h4 : ∀ x, v.ownBlock = some x → ¬ S x) : MemW w' g gm gs base m a us v F mem :=
  ⟨pt_chg h.tp c h1 h2, h.sp.chg c h3 h4, h.ok, h.mm, h.m0⟩
theorem MemW.lts {w : World} {g gm gs base m : Nat} {a : Option Addr} {us : Nat → Nat} {v : Value} {F : Nat × Nat → Option (Nat → Nat)} {mem : Nat → Nat} (h : MemW w g gm gs base m a us v F mem) : g < w.heap.size ∧ gm < w.heap.size ∧ gs < w.heap.size ∧ ∀ x, v.ownBlock = some x → x < w.heap.size :=
  ⟨h.tp.row.lt, h.tp.mp.lt, h.sp.row.lt, fun x hx => by obtain ⟨_, _, hb⟩ := own_blk h.sp.ov hx; exact rowlt hb⟩
set_option maxRecDepth 100000 in
set_option maxHeartbeats 16000000 in
theorem cpuBoots_walk (W : World) (v0 v1 v2 v3 : Value) (o0 : Arg Try.prog W 5 v0) (o1 : Arg Try.prog W 32 v1) (o2 : Arg Try.prog W 5 v2) (o3 : Arg Try.prog W 3 v3) :
    Calls Try.prog 7 #[v0, v1, v2, v3] W fun e w' => e = .returned (.bool true) ∧ Below W.heap.size W w' := by
  obtain ⟨x0, rfl, h0⟩ := Arg.int Try.underlying5 o0
  obtain ⟨x2, rfl, h2⟩ := Arg.int Try.underlying5 o2
  obtain ⟨bud, rfl, h3⟩ := Arg.int Try.underlying3 o3
  obtain ⟨zs, hz⟩ := SI.of_arg Try.underlying32 Try.underlying5 (by kernel_rfl) o1
  have b0 := wf_u8 h0
  have b2 := wf_u8 h2
  have b3 := wf_i64 h3
  obtain ⟨ex, rfl⟩ : ∃ n : Nat, x0 = n := ⟨x0.toNat, by omega⟩
  obtain ⟨pg, rfl⟩ : ∃ n : Nat, x2 = n := ⟨x2.toNat, by omega⟩
  obtain ⟨A, cap, rfl, hc1, hc2⟩ := hz.sr.form
  have HZ := Lib.hid hz
  obtain ⟨len, hlen⟩ : ∃ l, l = zs.length := ⟨_, rfl⟩
  rw [← hlen] at hc1 ⊢
  have HL := Lib.hid hlen
  clear hz o0 o1 o2 o3 h0 h2 h3 hlen
  have hlm : len ≤ 9223372036854775807 := by unfold maxLen at hc2; omega
  obtain ⟨p, hp⟩ : ∃ p, p = pg % 16 := ⟨_, rfl⟩
  have hp16 : p ≤ 15 := by omega
  have fp : (pg : Int) % 16 = p := by omega
  obtain ⟨x, hx⟩ : ∃ x, x = ex % 5 := ⟨_, rfl⟩
  have hx5 : x ≤ 4 := by omega
  have fx : (ex : Int) % 5 = x := by omega
  clear hp hx
  go_enter Try.func7, Try.ntmps7
  go_wp2_with fail
  refine (cpuAwake_in _).mono ?_; rintro e wa ⟨rfl, hba⟩
  have HBA := Lib.hid hba
  have HZ0 := HZ
  have HZ1 := Lib.hid (HZ.out.keep hba)
  clear hba
  by_cases hbig : 400 < len
  · have fb : (400 : Int) < len := by omega
    go_wp2_with fail
    go_ret
    exact ⟨rfl, HBA.out⟩
  have fb : ¬ ((400 : Int) < len) := by omega
  by_cases hbig2 : 70000 < bud
  · go_wp2_with fail
    go_ret
    exact ⟨rfl, HBA.out⟩
  have hb1 := bnew wa (.cells #[.int .u8 x, .slice A len cap] 61)
  have hl1 := heap_alloc_last wa (.cells #[.int .u8 x, .slice A len cap] 61)
  have HB1 := Lib.hid (bnext HBA.out hb1)
  have HZ2 := Lib.hid (HZ1.out.keep hb1)
  have HL1 := Lib.hid hl1
  clear hb1 hl1
  go_upto_region 6 with fail
  obtain ⟨N, hN⟩ : ∃ k, k = wa.heap.size := ⟨_, rfl⟩
  rw [← hN] at HL1 ⊢
  generalize wa.alloc (.cells #[.int .u8 x, .slice A len cap] 61) = w1 at *
  clear hN
  go_wp2_with fail
  refine (pool_in _).mono ?_; rintro e w2 ⟨g, gm, ad, w0, rfl, hnp⟩
  have HNP := Lib.hid hnp
  clear hnp
  go_wp2_with fail
  have hnew := spaceNew_up HNP.out.cp HNP.out.b2 HNP.out.fp Cont.nil HNP.out.g0 HNP.out.g1 (lab := 0) (by rw [bigS_len]; omega) (sizeLe64 _) p (by omega) (by rw [bigS_fr0]; omega) (by rw [bigS_fr0]; omega)
  refine hnew.mono ?_
  rintro e w3 ⟨gs, v3, rfl, hgs, hT3, hS3, hc3⟩
  have hns := NewSp.mk' HNP.out (by omega) (by omega) hT3 hS3 hc3
  have hmw : MemW w3 g gm gs _ p _ _ v3 _ (fun _ => 0) := ⟨hns.tp, hns.sp, hns.ok, fun i hi => (zeroMem p i hi).symm, fun _ _ => by decide⟩
  have HMW := Lib.hid hmw
  have HG := Lib.hid (And.intro hns.g0 hns.g1)
  have HB3' := Lib.hid hns.bl
  have HB3 := Lib.hid (HB1.out.trans (HNP.out.b1.mono HB1.out.size))
  have HL0 := Lib.hid (bkeep HNP.out.b1 HL1.out)
  have HL3 := Lib.hid (bkeep hns.bl HL0.out)
  have HZ3 := Lib.hid (HZ2.out.keep HNP.out.b1)
  clear hnew hT3 hS3 hc3 hns hmw hgs
  have hc3 := rowcell HL3.out
  have hboot := boot_in HB3'.out HMW.out HG.out.1 HG.out.2 x (by omega) A cap zs HZ3.out (by have := HL.out; omega)
  rw [← HL.out] at hboot
  obtain ⟨be, hbe⟩ : ∃ be : Int, be = if (len + 63) / 64 + x = p then 0 else 27 := ⟨_, rfl⟩
  rw [← hbe] at hboot
  have HBT := Lib.hid hboot
  have HBE := Lib.hid hbe
  clear hboot hbe
  go_wp2_with fail
  refine HBT.out.mono ?_
  rintro e w4 ⟨rfl, F4, mem4, hM4, hcp, hb4⟩
  have HCP := Lib.hid hcp
  have nHL := Lib.hid (bkeep hb4 HL0.out)
  have nHM := Lib.hid hM4
  have nHZ := Lib.hid (HZ3.out.keep hb4)
  have nHB := Lib.hid (HB3.out.trans (hb4.mono HB3.out.size))
  clear hM4 hcp hb4 HZ HZ1 HZ2 HZ3 HB1 HB3 HB3' HL1 HL3 HL0 HMW HBT HBA HG HNP hc3
  have HLEN := HL; clear HL
  have HL := nHL; clear nHL
  have HM := nHM; clear nHM
  have HZ := nHZ; clear nHZ
  have HB := nHB; clear nHB
  generalize w2.heap.size = bs at *
  generalize setN (fun _ => 0) 0 (0 + p) = us at *
  have hb5 := bnew w4 (.cells #[.int .u32 0, .int .u32 0, .int .u32 0, .int .u32 0, .int .u32 0, .int .u32 0, .int .u32 0, .int .u32 0, .int .u32 0, .int .u32 0, .int .u32 0, .int .u32 0, .int .u32 0, .int .u32 0, .int .u32 0, .int .u32 0, .int .u32 0] 36)
  have hr5 := World.rowIs_alloc w4 #[.int .u32 0, .int .u32 0, .int .u32 0, .int .u32 0, .int .u32 0, .int .u32 0, .int .u32 0, .int .u32 0, .int .u32 0, .int .u32 0, .int .u32 0, .int .u32 0, .int .u32 0, .int .u32 0, .int .u32 0, .int .u32 0, .int .u32 0] 36 (stV loS) (fun i hi => by
    have h17 : i < 17 := by simpa using hi
    rcases (show i = 0 ∨ i = 1 ∨ i = 2 ∨ i = 3 ∨ i = 4 ∨ i = 5 ∨ i = 6 ∨ i = 7 ∨ i = 8 ∨ i = 9 ∨ i = 10 ∨ i = 11 ∨ i = 12 ∨ i = 13 ∨ i = 14 ∨ i = 15 ∨ i = 16 by omega) with rfl | rfl | rfl | rfl | rfl | rfl | rfl | rfl | rfl | rfl | rfl | rfl | rfl | rfl | rfl | rfl | rfl <;> rfl)
  have nHBs := Lib.hid HB.out.size
  have nHL := Lib.hid (bkeep hb5 HL.out)
  have nHM := Lib.hid (HM.out.keep hb5)
  have nHZ := Lib.hid (HZ.out.keep hb5)
  have nHB := Lib.hid (HB.out.trans (hb5.mono HB.out.size))
  clear HL
  clear HM
  clear HZ
  clear HB
  have HL := nHL
  clear nHL
  have HM := nHM
  clear nHM
  have HZ := nHZ
  clear nHZ
  have HB := nHB
  clear nHB
  have HR := Lib.hid hr5
  clear hb5 hr5
  have HGX := Lib.hid (show W.heap.size ≤ w4.heap.size from (by have := nHBs.out; exact this))
  go_upto_region 9 with fail
  obtain ⟨gx, hgx⟩ : ∃ k, k = w4.heap.size := ⟨_, rfl⟩
  rw [← hgx] at HR HGX ⊢
  clear nHBs
  generalize w4.alloc (.cells #[.int .u32 0, .int .u32 0, .int .u32 0, .int .u32 0, .int .u32 0, .int .u32 0, .int .u32 0, .int .u32 0, .int .u32 0, .int .u32 0, .int .u32 0, .int .u32 0, .int .u32 0, .int .u32 0, .int .u32 0, .int .u32 0, .int .u32 0] 36) = w5 at *
  clear hgx
  go_wp2_with fail
  refine (run_nil1 _ _ _).mono ?_; rintro e w6 ⟨rfl, hb6⟩
  have nHL := Lib.hid (bkeep hb6 HL.out)
  have nHM := Lib.hid (HM.out.keep hb6)
  have nHZ := Lib.hid (HZ.out.keep hb6)
  have nHB := Lib.hid (HB.out.trans (hb6.mono HB.out.size))
  have nHR := Lib.hid (HR.out.of_block (hb6.block _ HR.out.lt))
  clear HL
  clear HM
  clear HZ
  clear HB
  clear HR
  have HL := nHL
  clear nHL
  have HM := nHM
  clear nHM
  have HZ := nHZ
  clear nHZ
  have HB := nHB
  clear nHB
  have HR := nHR
  clear nHR
  clear hb6
  have hbw7 := bnew w6 (.cells #[.int .u8 2, .int .i64 1, .int .i64 0] 43)
  have hlw7 := heap_alloc_last w6 (.cells #[.int .u8 2, .int .i64 1, .int .i64 0] 43)
  have nHL := Lib.hid (bkeep hbw7 HL.out)
  have nHM := Lib.hid (HM.out.keep hbw7)
  have nHZ := Lib.hid (HZ.out.keep hbw7)
  have nHB := Lib.hid (HB.out.trans (hbw7.mono HB.out.size))
  have nHR := Lib.hid (HR.out.of_block (hbw7.block _ HR.out.lt))
  clear HL
  clear HM
  clear HZ
  clear HB
  clear HR
  have HL := nHL
  clear nHL
  have HM := nHM
  clear nHM
  have HZ := nHZ
  clear nHZ
  have HB := nHB
  clear nHB
  have HR := nHR
  clear nHR
  have HEF := Lib.hid hlw7
  clear hbw7 hlw7
  go_upto_region 10 with fail
  obtain ⟨NF, hNF⟩ : ∃ k, k = w6.heap.size := ⟨_, rfl⟩
  rw [← hNF] at HEF ⊢
  generalize w6.alloc (.cells #[.int .u8 2, .int .i64 1, .int .i64 0] 43) = w7 at *
  clear hNF
  go_wp2_with fail
  refine (run_nil2 _ _ _).mono ?_; rintro e w8 ⟨rfl, hb8⟩
  have nHL := Lib.hid (bkeep hb8 HL.out)
  have nHM := Lib.hid (HM.out.keep hb8)
  have nHZ := Lib.hid (HZ.out.keep hb8)
  have nHB := Lib.hid (HB.out.trans (hb8.mono HB.out.size))
  have nHR := Lib.hid (HR.out.of_block (hb8.block _ HR.out.lt))
  have nHEF := Lib.hid (bkeep hb8 HEF.out)
  clear HL
  clear HM
  clear HZ
  clear HB
  clear HR
  clear HEF
  have HL := nHL
  clear nHL
  have HM := nHM
  clear nHM
  have HZ := nHZ
  clear nHZ
  have HB := nHB
  clear nHB
  have HR := nHR
  clear nHR
  have HEF := nHEF
  clear nHEF
  clear hb8
  have hbw9 := bnew w8 (.cells #[.int .u8 2, .int .i64 1, .int .i64 0] 43)
  have hlw9 := heap_alloc_last w8 (.cells #[.int .u8 2, .int .i64 1, .int .i64 0] 43)
  have nHL := Lib.hid (bkeep hbw9 HL.out)
  have nHM := Lib.hid (HM.out.keep hbw9)
  have nHZ := Lib.hid (HZ.out.keep hbw9)
  have nHB := Lib.hid (HB.out.trans (hbw9.mono HB.out.size))
  have nHR := Lib.hid (HR.out.of_block (hbw9.block _ HR.out.lt))
  have nHEF := Lib.hid (bkeep hbw9 HEF.out)
  clear HL
  clear HM
  clear HZ
  clear HB
  clear HR
  clear HEF
  have HL := nHL
  clear nHL
  have HM := nHM
  clear nHM
  have HZ := nHZ
  clear nHZ
  have HB := nHB
  clear nHB
  have HR := nHR
  clear nHR
  have HEF := nHEF
  clear nHEF
  have HEH := Lib.hid hlw9
  clear hbw9 hlw9
  go_upto_region 11 with fail
  obtain ⟨NH, hNH⟩ : ∃ k, k = w8.heap.size := ⟨_, rfl⟩
  rw [← hNH] at HEH ⊢
  generalize w8.alloc (.cells #[.int .u8 2, .int .i64 1, .int .i64 0] 43) = w9 at *
  clear hNH
  have hb10 := bnew w9 (.cells #[.int .u8 30, .int .u8 0, .int .u8 255, .int .u8 255] 5)
  have hl10 := heap_alloc_last w9 (.cells #[.int .u8 30, .int .u8 0, .int .u8 255, .int .u8 255] 5)
  have nHL := Lib.hid (bkeep hb10 HL.out)
  have nHM := Lib.hid (HM.out.keep hb10)
  have nHZ := Lib.hid (HZ.out.keep hb10)
  have nHB := Lib.hid (HB.out.trans (hb10.mono HB.out.size))
  have nHR := Lib.hid (HR.out.of_block (hb10.block _ HR.out.lt))
  have nHEF := Lib.hid (bkeep hb10 HEF.out)
  have nHEH := Lib.hid (bkeep hb10 HEH.out)
  clear HL
  clear HM
  clear HZ
  clear HB
  clear HR
  clear HEF
  clear HEH
  have HL := nHL
  clear nHL
  have HM := nHM
  clear nHM
  have HZ := nHZ
  clear nHZ
  have HB := nHB
  clear nHB
  have HR := nHR
  clear nHR
  have HEF := nHEF
  clear nHEF
  have HEH := nHEH
  clear nHEH
  clear hb10
  have hsi : ∀ LB, LB = w9.heap.size → SI (w9.alloc (.cells #[.int .u8 30, .int .u8 0, .int .u8 255, .int .u8 255] 5)) .u8 (.slice (some ⟨LB, 0, none⟩) loZ.length 4) loZ := fun LB hLB =>
    ⟨⟨rfl, .inr ⟨⟨LB, 0, none⟩, 4, rfl, by decide, by simp [maxLen], fun _ => ⟨rfl, by rw [hLB]; exact rowlt hl10, fun i hi => by
      show World.cell? _ ⟨LB, 0 + i, none⟩ = _
      rw [Nat.zero_add, hLB, rowcell hl10, ← Array.getElem?_toList]
      rfl⟩⟩⟩, by decide⟩
  have HSI := Lib.hid hsi
  clear hsi hl10
  obtain ⟨LB, hLB⟩ : ∃ k, k = w9.heap.size := ⟨_, rfl⟩
  have HMEM := Lib.hid (memory_in _ (some ⟨LB, 0, none⟩) 4 loZ (HSI.out LB hLB) (by decide) 1 (by omega) (by decide))
  clear HSI
  go_wp2_with fail
  rw [← hLB]
  generalize w9.alloc (.cells #[.int .u8 30, .int .u8 0, .int .u8 255, .int .u8 255] 5) = w10 at *
  clear hLB
  refine HMEM.out.mono ?_
  rintro e w11 ⟨g', gm', gs', base', a', us', v', F', rfl, hg', hgm', hbs', hmw', hb11⟩
  have HG' := Lib.hid (And.intro hg' hgm')
  have HLT := Lib.hid HM.out.lts
  have HLN := Lib.hid (And.intro (rowlt HL.out) (And.intro (rowlt HEF.out) (rowlt HEH.out)))
  have HW10 := Lib.hid HB.out.size
  have nHL := Lib.hid (bkeep hb11 HL.out)
  have nHM := Lib.hid (HM.out.keep hb11)
  have nHZ := Lib.hid (HZ.out.keep hb11)
  have nHB := Lib.hid (HB.out.trans (hb11.mono HB.out.size))
  have nHR := Lib.hid (HR.out.of_block (hb11.block _ HR.out.lt))
  have nHEF := Lib.hid (bkeep hb11 HEF.out)
  have nHEH := Lib.hid (bkeep hb11 HEH.out)
  clear HL
  clear HM
  clear HZ
  clear HB
  clear HR
  clear HEF
  clear HEH
  have HL := nHL
  clear nHL
  have HM := nHM
  clear nHM
  have HZ := nHZ
  clear nHZ
  have HB := nHB
  clear nHB
  have HR := nHR
  clear nHR
  have HEF := nHEF
  clear nHEF
  have HEH := nHEH
  clear nHEH
  have hM := MemW.mw (s := loS) hmw' HR.out (fun i _ => ⟨Int.le_refl 0, (by decide : (0 : Int) ≤ 4294967295)⟩) (by decide)
  have HMW := Lib.hid hM
  have HMX := Lib.hid (MemW.mw (s := ⟨fun _ => 0, 0, mem4⟩) HM.out (by have := HR.out; exact this) (fun i _ => ⟨Int.le_refl 0, (by decide : (0 : Int) ≤ 4294967295)⟩) ⟨Int.le_refl 0, (by decide : (0 : Int) ≤ 4294967295)⟩).gx_ne
  clear hM hg' hgm' hbs' hmw' hb11 HMEM
  go_wp2_with fail
  obtain ⟨nb, hnb, hbud⟩ : ∃ nb : Nat, nb ≤ 65536 ∧ ((bud < 0 ∧ nb = 0) ∨ (0 ≤ bud ∧ bud ≤ 65536 ∧ bud = nb) ∨ (65536 < bud ∧ nb = 65536)) := by
    rcases (show bud < 0 ∨ (0 ≤ bud ∧ bud ≤ 65536) ∨ 65536 < bud by omega) with h | h | h
    · exact ⟨0, by omega, .inl ⟨h, rfl⟩⟩
    · exact ⟨bud.toNat, by omega, .inr (.inl ⟨h.1, h.2, by omega⟩)⟩
    · exact ⟨65536, by omega, .inr (.inr ⟨h, rfl⟩)⟩
  have hrun := run_any HMW.out bud nb hnb hbud
  unfold RunP at hrun
  rw [lo_run, Nat.zero_add] at hrun
  have HRUN := Lib.hid hrun
  clear hrun
  refine HRUN.out.mono ?_
  rintro e w12 ⟨rfl, _, hc12⟩
  have tR := rowIs_arr HR.out
  have nS : ∀ k, k ≠ gx → k < w10.heap.size → ¬ mwS g' gm' gx k := fun k h1 h2 h3 => by rcases h3 with h | h | h; exact h1 h; exact absurd HG'.out.1 (by omega); exact absurd HG'.out.2 (by omega)
  have nHL := Lib.hid (hc12.blk HL.out (nS _ (ne_types HL.out tR (by decide)) HLN.out.1))
  have nHEF := Lib.hid (hc12.blk HEF.out (nS _ (ne_types HEF.out tR (by decide)) HLN.out.2.1))
  have nHEH := Lib.hid (hc12.blk HEH.out (nS _ (ne_types HEH.out tR (by decide)) HLN.out.2.2))
  have nHM := Lib.hid (HM.out.chg hc12 (nS _ (fun e => HMX.out.1 e.symm) HLT.out.1) (nS _ (fun e => HMX.out.2.1 e.symm) HLT.out.2.1) (nS _ (fun e => HMX.out.2.2.1 e.symm) HLT.out.2.2.1) (fun x hx => nS _ (fun e => HMX.out.2.2.2 (by rw [← e]; exact hx)) (HLT.out.2.2.2 x hx)))
  have nHB := Lib.hid (Chg.go HB.out hc12 (fun k hk => by
    rcases hk with rfl | rfl | rfl
    · exact HGX.out
    · exact Nat.le_trans HW10.out HG'.out.1
    · exact Nat.le_trans HW10.out HG'.out.2) HB.out.size)
  clear nS tR hc12 HMX HLT HLN HG' HMW HRUN HL HEF HEH HM HB HR HZ
  unfold endA
  have HL := nHL; clear nHL
  have HEF := nHEF; clear nHEF
  have HEH := nHEH; clear nHEH
  have HM := nHM; clear nHM
  have HB := nHB; clear nHB
  have hbw13 := bnew w12 (.cells #[.int .u8 0, .int .i64 0, .int .i64 (nb : Nat)] 43)
  have hlw13 := heap_alloc_last w12 (.cells #[.int .u8 0, .int .i64 0, .int .i64 (nb : Nat)] 43)
  have nHL := Lib.hid (bkeep hbw13 HL.out)
  have nHM := Lib.hid (HM.out.keep hbw13)
  have nHB := Lib.hid (HB.out.trans (hbw13.mono HB.out.size))
  have nHEF := Lib.hid (bkeep hbw13 HEF.out)
  have nHEH := Lib.hid (bkeep hbw13 HEH.out)
  clear HL
  clear HM
  clear HB
  clear HEF
  clear HEH
  have HL := nHL
  clear nHL
  have HM := nHM
  clear nHM
  have HB := nHB
  clear nHB
  have HEF := nHEF
  clear nHEF
  have HEH := nHEH
  clear nHEH
  have HEJ := Lib.hid hlw13
  clear hbw13 hlw13
  go_upto_region 13 with fail
  obtain ⟨NJ, hNJ⟩ : ∃ k, k = w12.heap.size := ⟨_, rfl⟩
  rw [← hNJ] at HEJ ⊢
  generalize w12.alloc (.cells #[.int .u8 0, .int .i64 0, .int .i64 (nb : Nat)] 43) = w13 at *
  clear hNJ
  have hbw14 := bnew w13 (.cells #[.int .u8 2, .int .i64 1, .int .i64 0] 43)
  have hlw14 := heap_alloc_last w13 (.cells #[.int .u8 2, .int .i64 1, .int .i64 0] 43)
  have nHL := Lib.hid (bkeep hbw14 HL.out)
  have nHM := Lib.hid (HM.out.keep hbw14)
  have nHB := Lib.hid (HB.out.trans (hbw14.mono HB.out.size))
  have nHEF := Lib.hid (bkeep hbw14 HEF.out)
  have nHEH := Lib.hid (bkeep hbw14 HEH.out)
  have nHEJ := Lib.hid (bkeep hbw14 HEJ.out)
  clear HL
  clear HM
  clear HB
  clear HEF
  clear HEH
  clear HEJ
  have HL := nHL
  clear nHL
  have HM := nHM
  clear nHM
  have HB := nHB
  clear nHB
  have HEF := nHEF
  clear nHEF
  have HEH := nHEH
  clear nHEH
  have HEJ := nHEJ
  clear nHEJ
  have HEN := Lib.hid hlw14
  clear hbw14 hlw14
  go_upto_region 14 with fail
  obtain ⟨NN, hNN⟩ : ∃ k, k = w13.heap.size := ⟨_, rfl⟩
  rw [← hNN] at HEN ⊢
  generalize w13.alloc (.cells #[.int .u8 2, .int .i64 1, .int .i64 0] 43) = w14 at *
  clear hNN
  have hc9 := rowcell HL.out
  go_wp2_with fail
  refine (boot_nil _ x A len cap).mono ?_; rintro e w15 ⟨rfl, hb15⟩
  clear hc9
  have nHL := Lib.hid (bkeep hb15 HL.out)
  have nHM := Lib.hid (HM.out.keep hb15)
  have nHB := Lib.hid (HB.out.trans (hb15.mono HB.out.size))
  have nHEF := Lib.hid (bkeep hb15 HEF.out)
  have nHEH := Lib.hid (bkeep hb15 HEH.out)
  have nHEJ := Lib.hid (bkeep hb15 HEJ.out)
  have nHEN := Lib.hid (bkeep hb15 HEN.out)
  clear HL
  clear HM
  clear HB
  clear HEF
  clear HEH
  clear HEJ
  clear HEN
  have HL := nHL
  clear nHL
  have HM := nHM
  clear nHM
  have HB := nHB
  clear nHB
  have HEF := nHEF
  clear nHEF
  have HEH := nHEH
  clear nHEH
  have HEJ := nHEJ
  clear nHEJ
  have HEN := nHEN
  clear nHEN
  clear hb15
  have hcF := rowcell HEF.out
  have hcH := rowcell HEH.out
  have hcJ := rowcell HEJ.out
  have hcN := rowcell HEN.out
  have hcL := rowcell HL.out
  have heq1 : ∀ w : World, (Op.equalIn 10000 43 (.agg #[.int .u8 2, .int .i64 1, .int .i64 0]) (.agg #[.int .u8 2, .int .i64 1, .int .i64 0])).run Try.prog w = .ok true w := fun w => by kernel_rfl
  have heq2 : ∀ w : World, (Op.equalIn 10000 43 (.agg #[.int .u8 0, .int .i64 0, .int .i64 (nb : Nat)]) (.agg #[.int .u8 0, .int .i64 0, .int .i64 (nb : Nat)])).run Try.prog w = .ok true w := fun w => eqEnd (x := 0) (by omega) (by omega) (by omega) w
  go_wp2_with fail
  all_goals
    obtain ⟨pn, hpn⟩ : ∃ k, k = ((len : Int) + 64 - 1) / 64 + x := ⟨_, rfl⟩
    have hpg := opsPages_any (x : Int) (by omega) (by omega) A len cap (by omega) w15
    rw [← hpn] at hpg
    refine hpg.mono ?_; rintro e w16 ⟨rfl, hb16⟩
    have hm16 := HM.out.keep hb16
    have HM16 := Lib.hid hm16
    have HB16 := Lib.hid (HB.out.trans (hb16.mono HB.out.size))
    clear hm16 hb16 hpg hcF hcH hcJ hcN hcL heq1 heq2
    by_cases c : (len + 63) / 64 + x = p
    · have e1 : be = 0 := by rw [HBE.out, if_pos c]
      subst e1
      have hne : ((p : Int) != pn) = false := by rw [bne_eq_false_iff_eq]; omega
      clear hpn
      go_wp2_with fail
      refine (HM16.out.read len (by omega)).mono ?_; rintro e w17 ⟨gO, rfl, hsO, hb17⟩
      have hml : memL mem4 len = zs := HCP.out c
      rw [hml] at hsO
      have hbe17 := HB16.out.trans (hb17.mono HB16.out.size)
      have hz17 := HZ0.out.keep hbe17
      rw [← HLEN.out] at hz17
      have HB17 := Lib.hid hbe17
      have cx := hsO.toString (P := Try.prog) Try.underlying32 Try.underlying5 Try.underlying9
      have cy := hz17.toString (P := Try.prog) Try.underlying32 Try.underlying5 Try.underlying9
      clear hsO hz17 hbe17 hb17 hml
      go_wp2_with fail
      go_ret
      refine ⟨?_, HB17.out⟩
      first | rfl | (simp; done)
    · have e1 : be = 27 := by rw [HBE.out, if_neg c]
      subst e1
      have hne : ((p : Int) != pn) = true := by rw [bne_iff_ne]; omega
      clear hpn
      go_wp2_with fail
      go_ret
      exact ⟨rfl, HB16.out⟩
end Go.Proofs.Ytapcbfeifeobhaa
