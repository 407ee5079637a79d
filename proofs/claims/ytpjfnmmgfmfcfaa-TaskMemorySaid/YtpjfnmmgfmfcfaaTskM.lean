/- Processes: Hear. -/
import Derived.Test.YtpjfnmmgfmfcfaaTskJ
set_option linter.unusedVariables false
set_option linter.unusedSimpArgs false
namespace Go.Proofs.Ytpjfnmmgfmfcfaa
open Go.RowKit
open Go.Maps (Keyed)

def goneE (t : TE) : Bool := decide (t.pr.st = 3)
def hearL (L : List TE) (n : Nat) : Option TE := (kidsL L n).find? goneE

def HearP (B g gm : Nat) (a : Option Addr) (T : Nat → List TE) (l n : Nat) (w : World) (e : Ending) (w' : World) : Prop :=
  Duo w w' g gm ∧
    ((∃ t, hearL (T l) n = some t ∧ e = .returned (.tuple #[.int .u16 t.pr.num, .int .i32 t.pr.sta, .int .i64 0]) ∧ TT B w' g gm a (setT T l (dropE (T l) t.pr.num))) ∨
     (hearL (T l) n = none ∧ e = .returned (.tuple #[.int .u16 0, .int .i32 0, .int .i64 (if kidsL (T l) n = [] then 17 else 33)]) ∧ TT B w' g gm a T))
section
variable {B : Nat} {w0 w w' : World} {g gm : Nat} {a : Option Addr} {rs : List RegL} {T : Nat → List TE}
set_option maxRecDepth 20000 in
set_option maxHeartbeats 8000000 in
theorem taskHear_in (h : TT B w g gm a T) (l n : Nat) (hl : l < 64) (hn : n ≤ 65535) :
    Calls Try.prog 31 #[.pointer (some ⟨g, 0, none⟩), .agg #[.int .u8 l, .int .u16 n]] w (HearP B g gm a T l n w) := by
  have hbn := bnew w (.cells #[.int .u8 l, .int .u16 n] 45)
  have hl1 := heap_alloc_last w (.cells #[.int .u8 l, .int .u16 n] 45)
  have HT := Lib.hid (h.keep hbn)
  have HB := Lib.hid hbn
  have HL1 := Lib.hid hl1
  have c0 := rowcell hl1
  obtain ⟨L, hL⟩ : ∃ L, L = kidsL (T l) n := ⟨_, rfl⟩
  have HL := Lib.hid hL
  have hlen : L.length ≤ 1000 := by rw [hL]; exact Nat.le_trans (List.length_filter_le _ _) (h.len l)
  clear h hbn hl1 hL
  go_enter Try.func31, Try.ntmps31
  go_wp2_with fail
  generalize hG : w.heap.size = G at *
  generalize w.alloc (.cells #[.int .u8 l, .int .u16 n] 45) = w1 at *
  have HG := Lib.hid hG
  clear hG c0
  refine (taskKids_in HT.out l n hl hn).mono ?_
  rintro e w2 ⟨v, rfl, hlv, hb2⟩
  rw [← HL.out] at hlv
  obtain ⟨ad, cv, hv⟩ := LV.form (L := L) hlv
  have HLV := Lib.hid (show LV w2 w1.heap.size v L from hlv)
  have HB2 := Lib.hid (show Below w.heap.size w w2 from by rw [HG.out]; exact HB.out.trans (hb2.mono (by have := HB.out.size; rw [HG.out] at this; exact this)))
  have HT2 := Lib.hid (HT.out.keep hb2)
  obtain ⟨m, hm⟩ : ∃ m, m = L.length := ⟨_, rfl⟩
  rw [← hm] at hlen hv
  have HM := Lib.hid hm
  subst hv
  clear hlv hb2 hm
  go_wp2_with fail
  go_loopw [15] (fun r wx => ∃ j : Nat, j ≤ m ∧ r = .int .i64 j ∧ (∀ t ∈ L.take j, goneE t = false) ∧ Below w2.heap.size w2 wx) (fun r _ => m - (intOf r).toNat)
  case atStart => exact ⟨0, Nat.zero_le _, rfl, fun t ht => absurd ht List.not_mem_nil, Below.refl _ _⟩
  case round =>
    obtain ⟨j, hj, rfl, hno, hbr⟩ := hrel
    have HNO := Lib.hid hno
    have HBR := Lib.hid hbr
    have HLR := Lib.hid (HLV.out.keep hbr)
    have HTR := Lib.hid (HT2.out.keep hbr)
    clear hno hbr
    by_cases hjn : j < m
    · have f2 : (j : Int) < m := by omega
      have hjT : j < L.length := by rw [← HM.out]; exact hjn
      obtain ⟨q, off, c2, hs, hq, hcell⟩ := HLR.out.cell hjT
      have hcc : ad = some ⟨q, off, none⟩ := by
        simp only [Value.slice.injEq] at hs
        exact hs.1
      subst hcc
      obtain ⟨t, ht⟩ : ∃ t, t = L[j] := ⟨_, rfl⟩
      rw [← ht] at hcell
      have hmem : t ∈ T l := by
        have : t ∈ L := by rw [ht]; exact List.getElem_mem hjT
        rw [HL.out] at this
        exact (List.mem_filter.1 this).1
      have hrow := HTR.out.pr _ _ hmem
      have e5 : wr.cell? ⟨t.blk, 5, none⟩ = some (.int .u8 t.pr.st) := hrow.cell (i := 5) (by omega)
      have HMEM := Lib.hid hmem
      have HTT := Lib.hid ht
      by_cases hst : t.pr.st = 3
      · have g1 : ((t.pr.st : Int) == 3) = true := by rw [beq_iff_eq]; omega
        have hp : L.find? goneE = some t := by
          have := find_at goneE L hjT HNO.out (by rw [← ht]; exact decide_eq_true hst)
          rw [this, ← ht]
        have HP := Lib.hid hp
        have hlab := HTR.out.ok.lab l t hmem
        have HROW := Lib.hid hrow
        have e0 : wr.cell? ⟨t.blk, 0, none⟩ = some (.int .u8 l) := by rw [hrow.cell (i := 0) (by omega)]; simp [prF, hlab]
        have e1 : wr.cell? ⟨t.blk, 1, none⟩ = some (.int .u16 t.pr.num) := hrow.cell (i := 1) (by omega)
        clear hs hq hmem hrow ht hst hp
        go_wp2_with fail
        refine (taskDrop_in HTR.out hl HMEM.out t.pr.num rfl).mono ?_
        rintro e w3 ⟨rfl, ht3, hd3⟩
        have hne := HTR.out.ne HMEM.out
        have hrow3 := HROW.out.of_block (hd3.block _ HROW.out.lt hne.1 hne.2)
        have d1 : w3.cell? ⟨t.blk, 1, none⟩ = some (.int .u16 t.pr.num) := hrow3.cell (i := 1) (by omega)
        have d12 : w3.cell? ⟨t.blk, 12, none⟩ = some (.int .i32 t.pr.sta) := hrow3.cell (i := 12) (by omega)
        have HT3 := Lib.hid ht3
        have HD3 := Lib.hid hd3
        clear e0 e1 e5 g1 hcell ht3 hd3 hne hrow3 hlab
        go_wp2_with fail
        go_quiet (fail)
        go_wp2_with fail
        go_ret3
        refine ⟨?_, .inl ⟨t, by unfold hearL; rw [← HL.out]; exact HP.out, rfl, HT3.out.keep (bdrewN (Below.refl _ _) nq)⟩⟩
        exact ((Duo.of_below (HB2.out.trans (HBR.out.mono HB2.out.size))).trans HD3.out).trans (Duo.of_below (bdrewN (Below.refl _ _) nq))
      · have g1 : ((t.pr.st : Int) == 3) = false := by rw [beq_eq_false_iff_ne]; omega
        have hre : goneE t = false := decide_eq_false hst
        have hno' : ∀ x ∈ L.take (j + 1), goneE x = false := fun x hx => by
          rw [List.take_succ_eq_append_getElem hjT, List.mem_append, List.mem_singleton, ← HTT.out] at hx
          rcases hx with h | rfl
          · exact HNO.out x h
          · exact hre
        have HNO' := Lib.hid hno'
        clear hs hq hmem hrow ht hst hre hno'
        go_wp2_with fail
        go_roundw
        case rel => exact ⟨j + 1, by omega, by go_num, HNO'.out, HBR.out⟩
        case measure => simp [intOf]; omega
    · obtain rfl : j = m := by omega
      have f2 : ¬ ((j : Int) < j) := by omega
      have hno := HNO.out
      rw [HM.out, List.take_length] at hno
      have hp : L.find? goneE = none := List.find?_eq_none.2 (fun t ht => by rw [hno t ht]; simp)
      have HP := Lib.hid hp
      clear hno hp
      by_cases h0 : j = 0
      · have g0 : ((j : Int) == 0) = true := by rw [beq_iff_eq]; omega
        have hnil : L = [] := List.length_eq_zero_iff.1 (by rw [← HM.out, h0])
        have HNIL := Lib.hid hnil
        clear h0 hnil
        go_wp2_with fail
        go_ret3
        refine ⟨Duo.of_below (HB2.out.trans (HBR.out.mono HB2.out.size)), .inr ⟨by unfold hearL; rw [← HL.out]; exact HP.out, ?_, HTR.out⟩⟩
        rw [if_pos (by rw [← HL.out]; exact HNIL.out)]; rfl
      · have g0 : ((j : Int) == 0) = false := by rw [beq_eq_false_iff_ne]; omega
        have hnil : L ≠ [] := fun e => h0 (by rw [HM.out, e]; rfl)
        have HNIL := Lib.hid hnil
        clear h0 hnil
        go_wp2_with fail
        go_ret3
        refine ⟨Duo.of_below (HB2.out.trans (HBR.out.mono HB2.out.size)), .inr ⟨by unfold hearL; rw [← HL.out]; exact HP.out, ?_, HTR.out⟩⟩
        rw [if_neg (by rw [← HL.out]; exact HNIL.out)]; rfl
end
end Go.Proofs.Ytpjfnmmgfmfcfaa
