/- Processes: drop, Kids, Sleep, Wake. -/
import Derived.Test.YtpjfnmmgfmfcfaaTskF
set_option linter.unusedVariables false
set_option linter.unusedSimpArgs false
namespace Go.Proofs.Ytpjfnmmgfmfcfaa
open Go.RowKit
open Go.Maps (Keyed)

/-- Those but for one of a number. -/
def dropE (L : List TE) (n : Nat) : List TE := L.filter fun t => !decide (t.pr.num = n)
theorem mem_dropE {L : List TE} {n : Nat} {t : TE} : t ∈ dropE L n ↔ t ∈ L ∧ t.pr.num ≠ n := by simp [dropE]
theorem asc_dropE {L : List TE} (n : Nat) (h : L.Pairwise fun a b => a.pr.num < b.pr.num) : (dropE L n).Pairwise fun a b => a.pr.num < b.pr.num := h.filter _
theorem find_dropE (L : List TE) (n m : Nat) : (dropE L n).find? (fun t => t.pr.num == m) = if m = n then none else L.find? fun t => t.pr.num == m := by
  unfold dropE
  induction L with
  | nil => simp
  | cons x L ih =>
    by_cases h1 : x.pr.num = n
    · rw [List.filter_cons_of_neg (by simp [h1])]
      rw [ih]
      by_cases h2 : m = n
      · rw [if_pos h2, if_pos h2]
      · rw [if_neg h2, if_neg h2, List.find?_cons_of_neg (by simp; omega)]
    · rw [List.filter_cons_of_pos (by simp [h1])]
      by_cases h3 : x.pr.num = m
      · rw [List.find?_cons_of_pos (by simpa using h3), List.find?_cons_of_pos (by simpa using h3), if_neg (by omega)]
      · rw [List.find?_cons_of_neg (by simpa using h3), List.find?_cons_of_neg (by simpa using h3), ih]
theorem len_dropE : ∀ (L : List TE), (L.Pairwise fun a b => a.pr.num < b.pr.num) → ∀ t ∈ L, (dropE L t.pr.num).length + 1 = L.length
  | [], _, t, h => absurd h List.not_mem_nil
  | x :: L, hp, t, h => by
    rw [List.pairwise_cons] at hp
    unfold dropE
    rcases List.mem_cons.1 h with rfl | h2
    · rw [List.filter_cons_of_neg (by simp), List.filter_eq_self.2 (fun y hy => by have := hp.1 y hy; simp; omega)]
      rfl
    · have h3 := hp.1 t h2
      rw [List.filter_cons_of_pos (by simp; omega)]
      have := len_dropE L hp.2 t h2
      unfold dropE at this
      simp only [List.length_cons]
      omega
theorem tF_drop (T : Nat → List TE) (l n : Nat) : tF (setT T l (dropE (T l) n)) = delF (tF T) (l, n) := by
  funext ⟨j, m⟩
  unfold tF delF setT
  by_cases h : j = l
  · subst h
    simp only [if_true, Prod.mk.injEq, true_and]
    rw [find_dropE]
    by_cases h2 : m = n
    · rw [if_pos h2, if_pos h2]; rfl
    · rw [if_neg h2, if_neg h2]
  · simp only [if_neg h, Prod.mk.injEq, h, false_and, if_false]

section
variable {B : Nat} {w0 w w' : World} {g gm : Nat} {a : Option Addr} {rs : List RegL} {T : Nat → List TE}
theorem TOk.drop (h : TOk B T) (l n : Nat) : TOk B (setT T l (dropE (T l) n)) where
  lab := fun j x hx => by
    rcases mem_setT hx with ⟨rfl, hx⟩ | ⟨_, hx⟩
    · exact h.lab _ _ (mem_dropE.1 hx).1
    · exact h.lab _ _ hx
  num := fun j x hx => by
    rcases mem_setT hx with ⟨rfl, hx⟩ | ⟨_, hx⟩
    · exact h.num _ _ (mem_dropE.1 hx).1
    · exact h.num _ _ hx
  asc := fun j => by
    unfold setT
    split
    · exact asc_dropE _ (h.asc l)
    · exact h.asc j
  far := fun j hj => by
    unfold setT
    split
    · rename_i e
      rw [← e, h.far j hj]; rfl
    · exact h.far j hj
  base := fun j x hx => by
    rcases mem_setT hx with ⟨rfl, hx⟩ | ⟨_, hx⟩
    · exact h.base _ _ (mem_dropE.1 hx).1
    · exact h.base _ _ hx
set_option maxRecDepth 20000 in
set_option maxHeartbeats 4000000 in
theorem taskDrop_in (h : TT B w g gm a T) {l : Nat} (hl : l < 64) {t : TE} (ht : t ∈ T l) (n : Nat) (hn : n = t.pr.num) :
    Calls Try.prog 38 #[.pointer (some ⟨g, 0, none⟩), .agg #[.int .u8 l, .int .u16 n]] w fun e w' => e = .returned (.tuple #[]) ∧ TT B w' g gm a (setT T l (dropE (T l) n)) ∧ Duo w w' g gm := by
  have hbn := bnew w (.cells #[.int .u8 l, .int .u16 n] 45)
  have hl1 := heap_alloc_last w (.cells #[.int .u8 l, .int .u16 n] 45)
  have HT := Lib.hid (h.keep hbn)
  have HB := Lib.hid hbn
  have HL := Lib.hid hl1
  have HX := Lib.hid (show g < w.heap.size ∧ gm < w.heap.size from ⟨h.tp.row.lt, h.tp.mp.lt⟩)
  have hnum := h.ok.num l t ht
  obtain ⟨lk, hkey⟩ := key_pid (l, t.pr.num) (by show l ≤ 255; omega) (by show t.pr.num ≤ 65535; omega)
  have HK := Lib.hid hkey
  have HF := Lib.hid (tF_at h.ok ht)
  have hlen := len_dropE (T l) (h.ok.asc l) t ht
  have HLN := Lib.hid hlen
  have hu : usT T l ≤ 1000 := h.len l
  have hu0 : 0 < usT T l := by show 0 < (T l).length; omega
  rw [← hn] at HK HF HLN hnum
  clear h hbn hl1 hkey hlen hn
  go_enter Try.func38, Try.ntmps38
  go_wp2_with fail
  generalize hG : w.heap.size = G at *
  generalize w.alloc (.cells #[.int .u8 l, .int .u16 n] 45) = w1 at *
  have HG := Lib.hid hG
  clear hG
  have c1 := rowcell HL.out
  have c2 := HT.out.tp.c1
  refine wp_region_still_tail 6 (by kernel_rfl) (by kernel_rfl) ?_
  simp only [List.take_succ_cons, List.take_zero, List.drop_succ_cons, List.drop_zero]
  change wpStill _ _ (World.drew w1) _ _ _
  iterate 5 still_step
  refine still_lookup (by kernel_rfl) (some 9) rfl (HT.out.keep (drewb w1)).tp.mp keyedPid markV_inj Try.underlying101 procZ _ _ false rfl (by go_simp) (l, n) (by go_simp; try rfl) HK.out (.pointer (some ⟨t.blk, 0, none⟩)) (by rw [HF.out]; rfl) ?_
  refine wpStill_nil ?_
  change wpList _ _ _ _ _ (World.drew w1)
  have HL2 := Lib.hid (bkeep (drewb w1) HL.out)
  have HT2 := Lib.hid (HT.out.keep (drewb w1))
  have HB2 := Lib.hid (drewb w1)
  clear c1 c2
  generalize World.drew w1 = w2 at *
  have c1 := rowcell HL2.out
  have c2 := HT2.out.tp.c1
  go_wp2_with fail
  refine wp_region_still_tail 5 (by kernel_rfl) (by kernel_rfl) ?_
  simp only [List.take_succ_cons, List.take_zero, List.drop_succ_cons, List.drop_zero]
  change wpStill _ _ (World.drew w2) _ _ _
  iterate 5 still_step
  refine wpStill_nil ?_
  change wpList _ _ _ _ _ (World.drew w2)
  refine wpList_delete_mk (by kernel_rfl) none rfl (HT2.out.keep (drewb w2)).tp.mp keyedPid markV_inj Try.underlying101 _ _ rfl (by go_simp) (l, n) (by go_simp; try rfl) HK.out ?_
  intro w3 hmk o3
  have HT3 := Lib.hid ((HT2.out.tp.keep (drewb w2)).setMap o3 hmk)
  have o3' : One w2 w3 (some gm) := ⟨o3.os, o3.tape, o3.output, o3.size, o3.block⟩
  have hl3 := o3'.blk HL2.out (fun e => by have := HX.out; cases e; omega)
  have HO3 := Lib.hid o3'
  clear c1 c2 o3 o3' hmk
  have c1 := rowcell hl3
  have c2 := HT3.out.cu hl
  have c3 := HT3.out.frz
  have c4 : IntKind.i64.wrap ((usT T l : Int) - 1) = (usT T l : Int) - 1 := by simp [IntKind.wrap, IntKind.bits, IntKind.signed]; omega
  have c5 : (l : Int) < 64 := by omega
  clear hl3
  go_wp2_with fail
  refine wp_region_still_tail 11 (by kernel_rfl) (by kernel_rfl) ?_
  simp only [List.take_succ_cons, List.take_zero, List.drop_succ_cons, List.drop_zero]
  change wpStill _ _ (World.drew w3) _ _ _
  iterate 11 still_step
  refine wpStill_nil ?_
  change wpList _ _ _ _ _ (World.drew w3)
  go_wp2_with fail
  go_end0
  have hA := HT3.out.setUs l (usT T l - 1) hl
  rw [show ((usT T l - 1 : Nat) : Int) = (usT T l : Int) - 1 by omega] at hA
  have oA := one_setCell w3 g (2 + l) (.int .i64 ((usT T l : Int) - 1))
  have hD2 : Duo w2 (w3.setCell ⟨g, 2 + l, none⟩ (.int .i64 ((usT T l : Int) - 1))) g gm := (Duo.of_one' HO3.out).trans (Duo.of_one oA)
  have hD : Duo w (w3.setCell ⟨g, 2 + l, none⟩ (.int .i64 ((usT T l : Int) - 1))).drew g gm := by
    have hb : Below w.heap.size w w2 := by
      rw [HG.out]
      exact HB.out.trans (HB2.out.mono (by have := HB.out.size; rw [HG.out] at this; exact this))
    exact ((Duo.of_below hb).trans hD2).trans (Duo.of_below (drewb _))
  refine ⟨rfl, ⟨?_, fun j x hx => ?_, HT2.out.ok.drop l n⟩, hD⟩
  · rw [usT_setT, tF_drop]
    have e : (dropE (T l) n).length = usT T l - 1 := by
      have := HLN.out
      show _ = (T l).length - 1
      omega
    rw [e]
    exact hA.keep (drewb _)
  · have hx2 : x ∈ T j := by
      rcases mem_setT hx with ⟨rfl, h6⟩ | ⟨_, h6⟩
      · exact (mem_dropE.1 h6).1
      · exact h6
    have hne := HT2.out.ne hx2
    have r2 := HT2.out.pr j x hx2
    exact (r2.of_block (hD2.block _ r2.lt hne.1 hne.2)).of_block ((drewb _).block _ (Nat.lt_of_lt_of_le r2.lt hD2.size))

def kidB (n : Nat) (t : TE) : Bool := decide (t.pr.par = n) && decide (0 < n)
def kidsL (L : List TE) (n : Nat) : List TE := L.filter (kidB n)
set_option maxRecDepth 20000 in
set_option maxHeartbeats 8000000 in
theorem taskKids_in (h : TT B w g gm a T) (l n : Nat) (hl : l < 64) (hn : n ≤ 65535) :
    Calls Try.prog 37 #[.pointer (some ⟨g, 0, none⟩), .agg #[.int .u8 l, .int .u16 n]] w fun e w' => ∃ v, e = .returned v ∧ LV w' w.heap.size v (kidsL (T l) n) ∧ Below w.heap.size w w' := by
  have hbn := bnew w (.cells #[.int .u8 l, .int .u16 n] 45)
  have hl1 := heap_alloc_last w (.cells #[.int .u8 l, .int .u16 n] 45)
  have HT := Lib.hid (h.keep hbn)
  have HB := Lib.hid hbn
  have HL1 := Lib.hid hl1
  have c0 := rowcell hl1
  obtain ⟨L, hL⟩ : ∃ L, L = T l := ⟨_, rfl⟩
  have HL := Lib.hid hL
  have hlen : L.length ≤ 1000 := by rw [hL]; exact h.len l
  rw [← hL]
  have f0 : IntKind.i64.wrap (l : Int) = l := by rw [IntKind.wrap_i64]; omega
  clear h hbn hl1 hL
  go_enter Try.func37, Try.ntmps37
  go_wp2_with fail
  generalize hG : w.heap.size = G at *
  generalize w.alloc (.cells #[.int .u8 l, .int .u16 n] 45) = w1 at *
  have HG := Lib.hid hG
  clear hG c0
  refine (taskList_in HT.out l hl).mono ?_
  rintro e w2 ⟨v, rfl, hlv, hb2⟩
  rw [← HL.out] at hlv
  obtain ⟨ad, cv, hv⟩ := LV.form (L := L) hlv
  have HLV := Lib.hid (show LV w2 w1.heap.size v L from hlv)
  have HB2 := Lib.hid (show Below w.heap.size w w2 from by rw [HG.out]; exact HB.out.trans (hb2.mono (by have := HB.out.size; rw [HG.out] at this; exact this)))
  have HL2 := Lib.hid (bkeep hb2 HL1.out)
  have HZ := Lib.hid (show G ≤ w1.heap.size from by have := HB.out.size; rw [HG.out] at this; exact this)
  have HB12 := Lib.hid hb2
  obtain ⟨m, hm⟩ : ∃ m, m = L.length := ⟨_, rfl⟩
  rw [← hm] at hlen hv
  have HM := Lib.hid hm
  subst hv
  clear hlv hb2 hm
  go_wp2_with fail
  go_loopw [5, 14] (fun r5 r wx => ∃ j : Nat, j ≤ m ∧ r = .int .i64 j ∧ LV wx w2.heap.size r5 (kidsL (L.take j) n) ∧ Below w2.heap.size w2 wx) (fun _ r _ => m - (intOf r).toNat)
  case atStart => exact ⟨0, Nat.zero_le _, rfl, ⟨rfl, .inl ⟨rfl, rfl⟩⟩, Below.refl _ _⟩
  case round =>
    obtain ⟨j, hj, rfl, hout, hbr⟩ := hrel
    obtain ⟨ado, co, hform⟩ := hout.form
    obtain ⟨no, hno⟩ : ∃ no, no = (kidsL (L.take j) n).length := ⟨_, rfl⟩
    rw [← hno] at hform
    subst hform
    have HO := Lib.hid hout
    have HBR := Lib.hid hbr
    have HLR := Lib.hid (HLV.out.keep hbr)
    have HNO := Lib.hid hno
    have hno1000 : no ≤ 1000 := by
      rw [hno]
      refine Nat.le_trans (List.length_filter_le _ _) ?_
      rw [List.length_take]; omega
    clear hout hno
    by_cases hjn : j < m
    · have f2 : (j : Int) < m := by omega
      have hjT : j < L.length := by rw [← HM.out]; exact hjn
      obtain ⟨q, off, c2, hs, hq, hcell⟩ := HLR.out.cell hjT
      have hcc : ad = some ⟨q, off, none⟩ := by
        simp only [Value.slice.injEq] at hs
        exact hs.1
      subst hcc
      obtain ⟨t, ht⟩ : ∃ t, t = L[j] := ⟨_, rfl⟩
      rw [← ht] at hcell
      have hmem : t ∈ T l := by rw [← HL.out, ht]; exact List.getElem_mem hjT
      have hb1r := bnext HB12.out HBR.out
      have hrow := (HT.out.pr _ _ hmem).of_block (hb1r.block _ (HT.out.pr _ _ hmem).lt)
      have e2 : wr.cell? ⟨t.blk, 2, none⟩ = some (.int .u16 t.pr.par) := hrow.cell (i := 2) (by omega)
      have hl1 := bkeep HBR.out HL2.out
      have e1 := rowcell hl1
      have hkt : kidsL (L.take (j + 1)) n = kidsL (L.take j) n ++ if kidB n t then [t] else [] := by
        unfold kidsL
        rw [List.take_succ_eq_append_getElem hjT, List.filter_append, ← ht]
        congr 1
        by_cases h : kidB n t <;> simp [h]
      have HKT := Lib.hid hkt
      clear hs hq hmem hrow ht hkt hl1 hb1r
      rcases (show ¬ t.pr.par = n ∨ (t.pr.par = n ∧ ¬ 0 < n) ∨ (t.pr.par = n ∧ 0 < n) by omega) with h1 | ⟨h1, h2⟩ | ⟨h1, h2⟩
      · have g1 : ((t.pr.par : Int) == n) = false := by rw [beq_eq_false_iff_ne]; omega
        have hk : kidB n t = false := by unfold kidB; rw [decide_eq_false h1, Bool.false_and]
        have HK := Lib.hid (show kidsL (L.take (j + 1)) n = kidsL (L.take j) n by rw [HKT.out, hk]; simp)
        have hud : undef = Value.tuple #[] := rfl
        clear h1 hk
        go_wp2_with fail
        go_quiet (fail)
        go_wp2_with fail
        go_roundw
        case rel => exact ⟨j + 1, by omega, by go_num, by rw [HK.out]; exact HO.out.keep (bdrewN (Below.refl _ _) nq), bdrewN HBR.out nq⟩
        case measure => simp [intOf]; omega
      · have g1 : ((t.pr.par : Int) == n) = true := by rw [beq_iff_eq]; omega
        have g2 : ¬ ((0 : Int) < n) := by omega
        have g3 : decide ((0 : Int) < n) = false := decide_eq_false g2
        have hk : kidB n t = false := by unfold kidB; rw [decide_eq_false h2, Bool.and_false]
        have HK := Lib.hid (show kidsL (L.take (j + 1)) n = kidsL (L.take j) n by rw [HKT.out, hk]; simp)
        clear h1 hk
        go_wp2_with fail
        go_quiet (fail)
        go_wp2_with fail
        go_roundw
        case rel => exact ⟨j + 1, by omega, by go_num, by rw [HK.out]; exact HO.out.keep (bdrewN (Below.refl _ _) nq), bdrewN HBR.out nq⟩
        case measure => simp [intOf]; omega
      · have g1 : ((t.pr.par : Int) == n) = true := by rw [beq_iff_eq]; omega
        have g2 : (0 : Int) < n := by omega
        have g3 : decide ((0 : Int) < n) = true := decide_eq_true g2
        have hk : kidB n t = true := by unfold kidB; rw [decide_eq_true h1, decide_eq_true h2]; rfl
        have HK := Lib.hid (show kidsL (L.take (j + 1)) n = kidsL (L.take j) n ++ [t] by rw [HKT.out, hk]; simp)
        clear h1 hk
        go_wp2_with fail
        go_quiet (fail)
        go_wp2_with (with_reducible refine wpList_stop (some 33) rfl ?_)
        refine Lib.hid ?_
        have hb5 : Below wr.heap.size wr (wr.drewN nq) := bdrewN (Below.refl _ _) nq
        refine wpList_append_sr rfl (.tmp 30) (.tmp 32) 116 rfl (some 33) rfl w2.heap.size 36 (.pointer none) 1 8 Try.underlying116 proc_row rfl (by omega) (.slice ado no co) (.slice (some ⟨wr.heap.size, 0, none⟩) 1 1) no 1
              ((kidsL (L.take j) n).map fun t => ptrV t.blk) [.pointer (some ⟨t.blk, 0, none⟩)] rfl (by have := own_below HO.out (bnext hb5 (bnew (wr.drewN nq) (.cells #[.pointer (some ⟨t.blk, 0, none⟩)] 36))); rw [← HNO.out] at this; exact this) rfl (SR.of_own (World.ownsRow_lit (wr.drewN nq) #[.pointer (some ⟨t.blk, 0, none⟩)] 1 (Nat.le_refl _) (by simp [maxLen]) rfl)) (fun u hu => by simp only [List.mem_singleton] at hu; subst hu; rfl) (by simp [maxLen]; omega) (by omega) (by have h3 := HBR.out.size; simp; omega) ?_
        intro u w6 hown5 hg5 hat5
        have HO5 := Lib.hid hown5
        have HB6 := Lib.hid (((bnext HBR.out hb5).alloc (bnext HBR.out hb5).size (.cells #[.pointer (some ⟨t.blk, 0, none⟩)] 36)).grown hg5 (by have h3 := HBR.out.size; simp; omega) (fun j hj => by
          have := (HO.out.lt j hj).1
          omega))
        have hkl : no + 1 = (kidsL (L.take (j + 1)) n).length := by rw [HK.out, List.length_append, ← HNO.out]; rfl
        have HO6 := Lib.hid (show LV w6 w2.heap.size u (kidsL (L.take (j + 1)) n) by
          unfold LV
          rw [← hkl, HK.out, List.map_append]
          exact HO5.out)
        clear hown5 hg5 hat5 hkl hb5
        go_wp2_with fail
        go_roundw
        case rel => exact ⟨j + 1, by omega, by go_num, HO6.out, HB6.out⟩
        case measure => simp [intOf]; omega
    · obtain rfl : j = m := by omega
      have f2 : ¬ ((j : Int) < j) := by omega
      have ho := HO.out
      rw [HM.out, List.take_length] at ho
      have HO2 := Lib.hid ho
      clear ho
      go_wp2_with fail
      go_ret
      exact ⟨_, rfl, own_lower HO2.out HB2.out.size, HB2.out.trans (HBR.out.mono HB2.out.size)⟩
end
end Go.Proofs.Ytpjfnmmgfmfcfaa
