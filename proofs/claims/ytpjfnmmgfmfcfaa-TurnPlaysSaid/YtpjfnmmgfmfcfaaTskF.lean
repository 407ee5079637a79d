/- Whose turn it is: Pick. -/
import Derived.Test.YtpjfnmmgfmfcfaaTskE
set_option linter.unusedVariables false
set_option linter.unusedSimpArgs false
namespace Go.Proofs.Ytpjfnmmgfmfcfaa
open Go.RowKit
open Go.Maps (Keyed)

def readyE (t : TE) : Bool := decide (t.pr.st = 1)
def nextE (k : Nat) (t : TE) : Bool := decide (t.pr.st = 1) && decide (k < t.pr.num)
/-- Which of a label's processes is next behind the one that ran last. -/
def pickL (L : List TE) (k : Nat) : Option TE := match L.find? (nextE k) with
  | some t => some t
  | none => L.find? readyE
def pickLast (L : List TE) (last : Nat → Nat) (l : Nat) : Nat → Nat := match pickL L (last l) with
  | some t => setN last l t.pr.num
  | none => last
theorem find_take (p : TE → Bool) (L : List TE) {j : Nat} (hj : j < L.length) : (L.take (j + 1)).find? p = ((L.take j).find? p).or (if p L[j] then some L[j] else none) := by
  rw [List.take_succ_eq_append_getElem hj, List.find?_append]
  congr 1
  by_cases h : p L[j] <;> simp [h]
theorem find_at (p : TE → Bool) (L : List TE) {j : Nat} (hj : j < L.length) (h0 : ∀ t ∈ L.take j, p t = false) (h1 : p L[j] = true) : L.find? p = some L[j] := by
  have h2 : (L.take j ++ L.drop j).find? p = some L[j] := by
    rw [List.find?_append, List.find?_eq_none.2 (fun t ht => by rw [h0 t ht]; simp), List.drop_eq_getElem_cons hj]
    rw [Option.none_or, List.find?_cons_of_pos h1]
  rwa [List.take_append_drop] at h2
section
variable {B : Nat} {w0 w w' : World} {g gm gt : Nat} {a : Option Addr} {rs : List RegL} {T : Nat → List TE} {last : Nat → Nat} {now slots : Nat}
theorem TU.cl (hu : TU w gt a last now slots) {l : Nat} (hl : l < 64) : w.cell? ⟨gt, 1 + l, none⟩ = some (.int .u16 (last l)) := by
  rw [hu.cell (i := 1 + l) (by omega)]
  unfold turnF
  rw [if_neg (by omega), if_pos (by omega), Nat.add_sub_cancel_left]
theorem turnF_last (a : Option Addr) (last : Nat → Nat) (now slots l n j : Nat) (hl : l < 64) : turnF a (setN last l n) now slots j = if j = 1 + l then .int .u16 n else turnF a last now slots j := by
  by_cases h : j = 1 + l
  · subst h
    rw [if_pos rfl]
    unfold turnF
    rw [if_neg (by omega), if_pos (by omega), Nat.add_sub_cancel_left, setN_same]
  · rw [if_neg h]
    unfold turnF
    by_cases h0 : j = 0
    · rw [if_pos h0, if_pos h0]
    · rw [if_neg h0, if_neg h0]
      by_cases h1 : j ≤ 64
      · rw [if_pos h1, if_pos h1, setN_other _ _ (by omega)]
      · rw [if_neg h1, if_neg h1]
theorem TU.setLast (hu : TU w gt a last now slots) {l : Nat} (hl : l < 64) (n : Nat) : TU (w.setCell ⟨gt, 1 + l, none⟩ (.int .u16 n)) gt a (setN last l n) now slots :=
  (hu.set (1 + l) (.int .u16 n)).congr (fun j hj => (turnF_last a last now slots l n j hl).symm)
def PickP (B g gm gt : Nat) (a : Option Addr) (T : Nat → List TE) (last : Nat → Nat) (now slots l : Nat) (w : World) (e : Ending) (w' : World) : Prop :=
  e = .returned (ptrO ((pickL (T l) (last l)).map TE.blk)) ∧ TT B w' g gm a T ∧ TU w' gt a (pickLast (T l) last l) now slots ∧ Chg (fun k => k = gt) w w'
set_option maxRecDepth 20000 in
set_option maxHeartbeats 16000000 in
theorem turnPick_in (h : TT B w g gm a T) (hu : TU w gt a last now slots) (l : Nat) (hl : l < 64) :
    Calls Try.prog 28 #[.pointer (some ⟨gt, 0, none⟩), .pointer (some ⟨g, 0, none⟩), .int .i64 l] w (PickP B g gm gt a T last now slots l w) := by
  have c4 : (l : Int) < 64 := by omega
  have c5 : ¬ ((64 : Int) ≤ l) := by omega
  have HT := Lib.hid h
  have HU := Lib.hid hu
  have HNS := Lib.hid (hu.notS h)
  obtain ⟨L, hL⟩ : ∃ L, L = T l := ⟨_, rfl⟩
  have HL := Lib.hid hL
  have HNum := Lib.hid (show ∀ t ∈ L, 1 ≤ t.pr.num ∧ t.pr.num ≤ 1000 by rw [hL]; exact h.ok.num l)
  have hlen : L.length ≤ 1000 := by rw [hL]; exact h.len l
  obtain ⟨k, hk⟩ : ∃ k, k = last l := ⟨_, rfl⟩
  have HK := Lib.hid hk
  clear h hu hL hk
  go_enter Try.func28, Try.ntmps28
  go_wp2_with fail
  refine (taskList_in HT.out l hl).mono ?_
  rintro e w2 ⟨v, rfl, hlv, hb2⟩
  rw [← HL.out] at hlv
  obtain ⟨ad, cv, hv⟩ := LV.form (L := L) hlv
  have HLV := Lib.hid (show LV w2 w.heap.size v L from hlv)
  have HB2 := Lib.hid hb2
  subst hv
  obtain ⟨n, hn⟩ : ∃ n, n = L.length := ⟨_, rfl⟩
  rw [← hn] at hlen HLV ⊢
  have HN := Lib.hid hn
  clear hlv hb2 hn
  go_wp2_with fail
  go_loopw [7, 24] (fun r7 r wx => ∃ j : Nat, j ≤ n ∧ r = .int .i64 j ∧ r7 = ptrO (((L.take j).find? readyE).map TE.blk) ∧ (∀ t ∈ L.take j, nextE k t = false) ∧ Below w.heap.size w wx ∧ LV wx w.heap.size (.slice ad n cv) L) (fun _ r _ => n - (intOf r).toNat)
  case atStart => exact ⟨0, Nat.zero_le _, rfl, rfl, fun t ht => absurd ht List.not_mem_nil, HB2.out, HLV.out⟩
  case round =>
    obtain ⟨j, hj, rfl, rfl, hno, hbr, hlr⟩ := hrel
    have HNO := Lib.hid hno
    have HBR := Lib.hid hbr
    have HLR := Lib.hid hlr
    have HTR := Lib.hid (HT.out.keep hbr)
    have HUR := Lib.hid (show TU wr gt a last now slots from HU.out.of_block (hbr.block gt HU.out.lt))
    clear hno hbr hlr
    by_cases hjn : j < n
    · have f2 : (j : Int) < n := by omega
      have hjT : j < L.length := by rw [← HN.out]; exact hjn
      obtain ⟨q, off, c2, hs, hq, hcell⟩ := HLR.out.cell hjT
      have hcc : ad = some ⟨q, off, none⟩ := by
        simp only [Value.slice.injEq] at hs
        exact hs.1
      subst hcc
      obtain ⟨t, ht⟩ : ∃ t, t = L[j] := ⟨_, rfl⟩
      rw [← ht] at hcell
      have hmem : t ∈ T l := by rw [← HL.out, ht]; exact List.getElem_mem hjT
      have hrow := HTR.out.pr _ _ hmem
      have e5 : wr.cell? ⟨t.blk, 5, none⟩ = some (.int .u8 t.pr.st) := hrow.cell (i := 5) (by omega)
      have e1 : wr.cell? ⟨t.blk, 1, none⟩ = some (.int .u16 t.pr.num) := hrow.cell (i := 1) (by omega)
      have d1 := HUR.out.cl hl
      rw [← HK.out] at d1
      have df := HUR.out.frozen
      have hfind := find_take readyE L hjT
      have hnum := HNum.out t (by rw [ht]; exact List.getElem_mem hjT)
      rw [← ht] at hfind
      have HFD := Lib.hid hfind
      have HTT := Lib.hid ht
      have hmemt : ∀ x ∈ L.take (j + 1), x ∈ L.take j ∨ x = t := fun x hx => by
        rw [List.take_succ_eq_append_getElem hjT, List.mem_append, List.mem_singleton, ← ht] at hx
        exact hx
      have HMT := Lib.hid hmemt
      obtain ⟨fo, hfo⟩ : ∃ fo, fo = (L.take j).find? readyE := ⟨_, rfl⟩
      rw [← hfo]
      have HFO := Lib.hid hfo
      clear hs hq hmem hrow hfind ht hmemt hfo
      by_cases hst : t.pr.st = 1
      · have g1 : ((t.pr.st : Int) == 1) = true := by rw [beq_iff_eq]; omega
        have hre : readyE t = true := decide_eq_true hst
        by_cases hgt : k < t.pr.num
        · have g2 : (k : Int) < t.pr.num := by omega
          have g3 : decide ((k : Int) < t.pr.num) = true := decide_eq_true g2
          have hnx : nextE k t = true := by unfold nextE; rw [decide_eq_true hst, decide_eq_true hgt]; rfl
          have hp : pickL L k = some t := by
            unfold pickL
            have := find_at (nextE k) L hjT HNO.out (by rw [← HTT.out]; exact hnx)
            rw [this, ← HTT.out]
          have HP := Lib.hid hp
          clear hst hgt hre hnx hp
          go_wp2_with fail
          go_quiet (fail)
          go_wp2_with fail
          generalize hw5 : wr.drewN nq = w5 at *
          have hb5 : Below w.heap.size w w5 := by rw [← hw5]; exact bdrewN HBR.out nq
          have HB5 := Lib.hid hb5
          have HT5 := Lib.hid (HT.out.keep hb5)
          have HU5 := Lib.hid (show TU w5 gt a last now slots from HU.out.of_block (hb5.block gt HU.out.lt))
          have hrow5 := HT5.out.pr l t (by rw [← HL.out, HTT.out]; exact List.getElem_mem hjT)
          clear e1 e5 d1 df hcell hb5
          have e1 : w5.cell? ⟨t.blk, 1, none⟩ = some (.int .u16 t.pr.num) := hrow5.cell (i := 1) (by omega)
          have d1 := HU5.out.cl hl
          have df := HU5.out.frozen
          clear hrow5 hw5
          refine wp_region_still_tail 10 (by kernel_rfl) (by kernel_rfl) ?_
          simp only [List.take_succ_cons, List.take_zero, List.drop_succ_cons, List.drop_zero]
          change wpStill _ _ (World.drew w5) _ _ _
          iterate 10 still_step
          refine wpStill_nil ?_
          change wpList _ _ _ _ _ (World.drew w5)
          go_wp2_with fail
          go_ret
          have hA := HU5.out.setLast hl t.pr.num
          have oA := one_setCell w5 gt (1 + l) (.int .u16 t.pr.num)
          refine ⟨?_, (HT5.out.one oA HNS.out).keep (drewb _), ?_, ((Chg.of_below _ HB5.out).trans (Chg.of_one (S := fun k => k = gt) oA rfl) (fun _ _ h => h)).trans (Chg.of_below (fun k => k = gt) (drewb _)) (fun _ _ h => h)⟩
          · rw [← HL.out, ← HK.out, HP.out]; rfl
          · unfold pickLast
            rw [← HL.out, ← HK.out, HP.out]
            exact hA.of_block ((drewb _).block _ hA.lt)
        · have g2 : ¬ ((k : Int) < t.pr.num) := by omega
          have g3 : decide ((k : Int) < t.pr.num) = false := decide_eq_false g2
          have hnx : nextE k t = false := by unfold nextE; rw [decide_eq_false hgt, Bool.and_false]
          have hno' : ∀ x ∈ L.take (j + 1), nextE k x = false := fun x hx => by
            rcases HMT.out x hx with h | rfl
            · exact HNO.out x h
            · exact hnx
          have HNO' := Lib.hid hno'
          rw [hre] at HFD
          have HFD2 := Lib.hid (show (L.take (j + 1)).find? readyE = fo.or (some t) by rw [HFD.out, HFO.out]; rfl)
          clear hst hgt hre hnx hno' HFD
          go_wp2_with fail
          go_quiet (fail)
          go_upto_region 11 with fail
          generalize hw5 : wr.drewN nq = w5 at *
          have hb5 : Below w.heap.size w w5 := by rw [← hw5]; exact bdrewN HBR.out nq
          have HB5 := Lib.hid hb5
          have HL5 := Lib.hid (show LV w5 w.heap.size (.slice (some ⟨q, off, none⟩) n cv) L by rw [← hw5]; exact HLR.out.keep (bdrewN (Below.refl _ _) nq))
          clear e1 e5 d1 df hcell hb5 hw5
          cases fo with
          | none =>
            simp only [ptrO, Option.map_none]
            go_wp2_with fail
            go_roundw
            case rel => exact ⟨j + 1, by omega, by go_num, by rw [HFD2.out]; rfl, HNO'.out, HB5.out, HL5.out⟩
            case measure => simp [intOf]; omega
          | some f =>
            simp only [ptrO, Option.map_some]
            go_wp2_with fail
            go_roundw
            case rel => exact ⟨j + 1, by omega, by go_num, by rw [HFD2.out]; rfl, HNO'.out, HB5.out, HL5.out⟩
            case measure => simp [intOf]; omega
      · have g1 : ((t.pr.st : Int) == 1) = false := by rw [beq_eq_false_iff_ne]; omega
        have hre : readyE t = false := decide_eq_false hst
        have hnx : nextE k t = false := by unfold nextE; rw [decide_eq_false hst, Bool.false_and]
        have hno' : ∀ x ∈ L.take (j + 1), nextE k x = false := fun x hx => by
          rcases HMT.out x hx with h | rfl
          · exact HNO.out x h
          · exact hnx
        have HNO' := Lib.hid hno'
        rw [hre] at HFD
        have HFD2 := Lib.hid (show (L.take (j + 1)).find? readyE = fo by rw [HFD.out, ← HFO.out]; cases fo <;> rfl)
        clear hst hre hnx hno' HFD
        go_wp2_with fail
        go_roundw
        case rel => exact ⟨j + 1, by omega, by go_num, by rw [HFD2.out], HNO'.out, HBR.out, HLR.out⟩
        case measure => simp [intOf]; omega
    · obtain rfl : j = n := by omega
      have f2 : ¬ ((j : Int) < j) := by omega
      have hno := HNO.out
      rw [HN.out, List.take_length] at hno
      have hfn : L.find? (nextE k) = none := List.find?_eq_none.2 (fun t ht => by rw [hno t ht]; simp)
      have hp : pickL L k = (L.take j).find? readyE := by
        unfold pickL
        rw [hfn, HN.out, List.take_length]
      obtain ⟨fo, hfo⟩ : ∃ fo, fo = (L.take j).find? readyE := ⟨_, rfl⟩
      rw [← hfo] at hp ⊢
      have HP := Lib.hid hp
      have HFO := Lib.hid hfo
      clear hno hfn hp hfo
      cases fo with
      | none =>
        simp only [ptrO, Option.map_none]
        go_wp2_with fail
        go_ret
        refine ⟨?_, HTR.out, ?_, Chg.of_below _ HBR.out⟩
        · rw [← HL.out, ← HK.out, HP.out]; rfl
        · unfold pickLast
          rw [← HL.out, ← HK.out, HP.out]
          exact HUR.out
      | some f =>
        have hmem : f ∈ T l := by
          rw [← HL.out]
          exact List.mem_of_mem_take (List.mem_of_find?_eq_some HFO.out.symm)
        have hrow := HTR.out.pr _ _ hmem
        have e1 : wr.cell? ⟨f.blk, 1, none⟩ = some (.int .u16 f.pr.num) := hrow.cell (i := 1) (by omega)
        have d1 := HUR.out.cl hl
        have df := HUR.out.frozen
        clear hmem hrow
        simp only [ptrO, Option.map_some]
        go_wp2_with fail
        refine wp_region_still_tail 10 (by kernel_rfl) (by kernel_rfl) ?_
        simp only [List.take_succ_cons, List.take_zero, List.drop_succ_cons, List.drop_zero]
        change wpStill _ _ (World.drew wr) _ _ _
        iterate 10 still_step
        refine wpStill_nil ?_
        change wpList _ _ _ _ _ (World.drew wr)
        go_wp2_with fail
        go_ret
        have hA := HUR.out.setLast hl f.pr.num
        have oA := one_setCell wr gt (1 + l) (.int .u16 f.pr.num)
        refine ⟨?_, (HTR.out.one oA HNS.out).keep (drewb _), ?_, ((Chg.of_below _ HBR.out).trans (Chg.of_one (S := fun k => k = gt) oA rfl) (fun _ _ h => h)).trans (Chg.of_below (fun k => k = gt) (drewb _)) (fun _ _ h => h)⟩
        · rw [← HL.out, ← HK.out, HP.out]; rfl
        · unfold pickLast
          rw [← HL.out, ← HK.out, HP.out]
          exact hA.of_block ((drewb _).block _ hA.lt)
end
end Go.Proofs.Ytpjfnmmgfmfcfaa
