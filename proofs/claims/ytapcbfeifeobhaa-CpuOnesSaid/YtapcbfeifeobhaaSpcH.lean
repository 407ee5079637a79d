/- Memory of a process: the walks of Write, Store, Load. -/
import Derived.Test.YtapcbfeifeobhaaSpcG
set_option linter.unusedVariables false
set_option linter.unusedSimpArgs false
namespace Go.Proofs.Ytapcbfeifeobhaa
open Go.RowKit

section
variable {w w' w0 : World} {base gs g gm lab : Nat} {ps : List (Nat × Nat)} {v : Value} {a : Option Addr} {us : Nat → Nat} {F F' : Nat × Nat → Option (Nat → Nat)} {rs : List RegL}
theorem SpV.chg2 (h : SpV w base gs g lab ps v) (ht : FP w g gm a us F) (c : Chg (fun k => k = g ∨ k = gm) w w') : SpV w' base gs g lab ps v :=
  h.chg c (by have := h.ne ht; omega) (fun x hx => by have := h.own_ne ht hx; omega)
set_option maxRecDepth 100000 in
set_option maxHeartbeats 4000000 in
theorem spaceWrite_in (hb : Below w0.heap.size w0 w) (ht : FP w g gm a us F) (hs : SpV w base gs g lab ps v) (ok : SpOk F ps) (g0 : w0.heap.size ≤ g) (g1 : w0.heap.size ≤ gm) (u : Value) (zs : List Int) (hz : SI w0 .u8 u zs) (at_ : Nat) (ha : at_ ≤ 4294967295) (hi : at_ + zs.length ≤ 64 * ps.length) :
    Calls Try.prog 24 #[.pointer (some ⟨gs, 0, none⟩), .int .u32 at_, u] w fun e w' => e = .returned (.int .i64 0) ∧ ∃ F', FP w' g gm a us F' ∧ SpUpd F F' ps (fun i => if at_ ≤ i ∧ i < at_ + zs.length then (zs.getD (i - at_) 0).toNat else spMem F ps i) ∧ Chg (fun k => k = g ∨ k = gm) w w' := by
  obtain ⟨A, cap, rfl, hc1, hc2⟩ := hz.sr.form
  have h := spaceInside_in hs ok.len at_ ha zs.length (by have := ok.len; omega) (by omega)
  rw [insideB_nat, decide_eq_true hi] at h
  have H := Lib.hid h
  obtain ⟨n, hn⟩ : ∃ n, n = zs.length := ⟨_, rfl⟩
  rw [← hn] at H hi
  rw [← hn]
  have HN := Lib.hid hn
  have hk : n ≤ 2048 := by have := ok.len; omega
  have ha2 : at_ ≤ 2048 := by have := ok.len; omega
  have HB := Lib.hid hb
  have HT := Lib.hid ht
  have HS := Lib.hid hs
  have HO := Lib.hid ok
  have HI := Lib.hid hi
  have HZ := Lib.hid hz
  have HG := Lib.hid (And.intro g0 g1)
  clear h hs ht ok hi hb hz g0 g1 hn hc1 hc2
  go_enter Try.func24, Try.ntmps24
  go_wp2_with fail
  refine H.out.mono ?_; rintro e w2 ⟨rfl, rfl⟩
  go_wp2_with fail
  go_loopw [17] (fun r wx => ∃ (j : Nat) (Fr : Nat × Nat → Option (Nat → Nat)), j ≤ n ∧ r = .int .i64 j ∧ FP wx g gm a us Fr ∧ SpUpd F Fr ps (fun i => if at_ ≤ i ∧ i < at_ + j then (zs.getD (i - at_) 0).toNat else spMem F ps i) ∧ Chg (fun k => k = g ∨ k = gm) w wx) (fun r _ => n - (intOf r).toNat)
  case atStart =>
    refine ⟨0, F, by omega, rfl, HT.out, ⟨fun _ => rfl, fun _ _ => rfl, fun i _ => ?_⟩, Chg.refl _ _⟩
    rw [if_neg (by omega)]
  case round =>
    obtain ⟨j, Fr, hj, rfl, htr, hup, hch⟩ := hrel
    have HTR := Lib.hid htr
    have HUP := Lib.hid hup
    have HCH := Lib.hid hch
    have HBR := Lib.hid (Chg.go HB.out hch (fun k hk => by
      rcases hk with rfl | rfl
      · exact HG.out.1
      · exact HG.out.2) HB.out.size)
    clear htr hup hch
    by_cases hjn : j < n
    · have f1 : (j : Int) < n := by omega
      have f2 : IntKind.i64.wrap (at_ : Int) = at_ := by rw [IntKind.wrap_i64]; omega
      have f3 : IntKind.i64.wrap ((at_ : Int) + j) = ((at_ + j : Nat) : Int) := by rw [IntKind.wrap_i64]; omega
      have hjz : j < zs.length := by rw [← HN.out]; exact hjn
      have hzi : zs.getD j 0 ∈ zs := by rw [List.getD_eq_getElem?_getD, List.getElem?_eq_getElem hjz]; exact List.getElem_mem hjz
      have hzw := wf_u8 (HZ.out.wf _ hzi)
      rcases HZ.out.cases with ⟨h, _⟩ | ⟨_, gz, offz, cz, hsl, _, _, hgz, hcz⟩
      · rw [h] at hjz; simp at hjz
      have hcell := (World.cell?_of_block (a := ⟨gz, offz + j, none⟩) (HBR.out.block gz hgz)).trans (hcz j hjz)
      clear hcz
      rw [← HN.out] at hsl
      cases hsl
      obtain ⟨c, hc⟩ : ∃ c : Nat, zs.getD j 0 = c := ⟨(zs.getD j 0).toNat, by omega⟩
      rw [hc] at hcell
      have HC := Lib.hid hc
      have hset := spaceSet_in HTR.out (HS.out.chg2 HT.out HCH.out) (HUP.out.ok HO.out) (at_ + j) (by have := HI.out; omega) c
      have HSET := Lib.hid hset
      clear hset hc hzi hzw
      go_wp2_with fail
      refine HSET.out.mono ?_; rintro e w3 ⟨rfl, hT3, hC3⟩
      have HT3 := Lib.hid hT3
      have HC3 := Lib.hid (HCH.out.trans hC3 (fun k _ h => h))
      clear hT3 hC3 hcell
      go_wp2_with fail
      go_roundw
      case rel =>
        have hnew := HUP.out.put HO.out (i := at_ + j) (by have := HI.out; omega) c
        refine ⟨j + 1, _, by omega, by go_num, HT3.out, ⟨hnew.same, hnew.out, fun i hi => ?_⟩, HC3.out⟩
        rw [hnew.mem i hi]
        by_cases e : i = at_ + j
        · subst e
          rw [if_pos rfl, if_pos (by omega), Nat.add_sub_cancel_left, HC.out]
          rfl
        · rw [if_neg e]
          by_cases e2 : at_ ≤ i ∧ i < at_ + j
          · rw [if_pos e2, if_pos (by omega)]
          · rw [if_neg e2, if_neg (by omega)]
      case measure => simp [intOf]; omega
    · obtain rfl : j = n := by omega
      have f1 : ¬ ((j : Int) < j) := by omega
      go_wp2_with fail
      go_ret
      exact ⟨rfl, Fr, HTR.out, HUP.out, HCH.out⟩
set_option maxRecDepth 100000 in
set_option maxHeartbeats 4000000 in
theorem spaceStore_in (ht : FP w g gm a us F) (hs : SpV w base gs g lab ps v) (ok : SpOk F ps) (at_ k : Nat) (ha : at_ ≤ 4294967295) (hi : at_ + k ≤ 64 * ps.length) (n : Nat) :
    Calls Try.prog 59 #[.pointer (some ⟨gs, 0, none⟩), .int .u32 at_, .int .i64 k, .int .u32 n] w fun e w' => e = .returned (.int .i64 0) ∧ ∃ F', FP w' g gm a us F' ∧ SpUpd F F' ps (fun i => if at_ ≤ i ∧ i < at_ + min k 4 then n / 2 ^ (8 * (i - at_)) % 256 else spMem F ps i) ∧ Chg (fun k => k = g ∨ k = gm) w w' := by
  have h := spaceInside_in hs ok.len at_ ha k (by have := ok.len; omega) (by omega)
  rw [insideB_nat, decide_eq_true hi] at h
  have H := Lib.hid h
  have hk : k ≤ 2048 := by have := ok.len; omega
  have ha2 : at_ ≤ 2048 := by have := ok.len; omega
  have HT := Lib.hid ht
  have HS := Lib.hid hs
  have HO := Lib.hid ok
  have HI := Lib.hid hi
  clear h hs ht ok hi
  rcases (show k < 4 ∨ k = 4 ∨ 4 < k by omega) with h4 | h4 | h4
  · have h4' : (k : Int) < 4 := by omega
    have h4'' : (k : Int) ≤ 4 := by omega
    go_enter Try.func59, Try.ntmps59
    go_wp2_with fail
    refine H.out.mono ?_; rintro e w2 ⟨rfl, rfl⟩
    go_wp2_with fail
    go_loopw [17] (fun r wx => ∃ (j : Nat) (Fr : Nat × Nat → Option (Nat → Nat)), j ≤ k ∧ r = .int .i64 j ∧ FP wx g gm a us Fr ∧ SpUpd F Fr ps (fun i => if at_ ≤ i ∧ i < at_ + j then n / 2 ^ (8 * (i - at_)) % 256 else spMem F ps i) ∧ Chg (fun k => k = g ∨ k = gm) w wx) (fun r _ => k - (intOf r).toNat)
    case atStart =>
      refine ⟨0, F, by omega, rfl, HT.out, ⟨fun _ => rfl, fun _ _ => rfl, fun i _ => ?_⟩, Chg.refl _ _⟩
      rw [if_neg (by omega)]
    case round =>
      obtain ⟨j, Fr, hj, rfl, htr, hup, hch⟩ := hrel
      have HTR := Lib.hid htr
      have HUP := Lib.hid hup
      have HCH := Lib.hid hch
      clear htr hup hch
      by_cases hjn : j < k
      · have f1 : (j : Int) < k := by omega
        have f2 : IntKind.i64.wrap (at_ : Int) = at_ := by rw [IntKind.wrap_i64]; omega
        have f3 : IntKind.i64.wrap ((at_ : Int) + j) = ((at_ + j : Nat) : Int) := by rw [IntKind.wrap_i64]; omega
        have f4 : IntKind.i64.wrap (8 * (j : Int)) = ((8 * j : Nat) : Int) := by rw [IntKind.wrap_i64]; omega
        have f5 : ¬ (((8 * j : Nat) : Int) < 0) := by omega
        obtain ⟨c, hc⟩ : ∃ c, c = n / 2 ^ (8 * j) % 256 := ⟨_, rfl⟩
        have f6 : (n : Int) / 2 ^ (8 * j) % 256 = (c : Int) := by rw [hc]; simp
        have HC := Lib.hid hc
        have hset := spaceSet_in HTR.out (HS.out.chg2 HT.out HCH.out) (HUP.out.ok HO.out) (at_ + j) (by have := HI.out; omega) c
        have HSET := Lib.hid hset
        clear hset hc
        go_wp2_with fail
        refine HSET.out.mono ?_; rintro e w3 ⟨rfl, hT3, hC3⟩
        have HT3 := Lib.hid hT3
        have HC3 := Lib.hid (HCH.out.trans hC3 (fun k _ h => h))
        clear hT3 hC3 f6
        go_wp2_with fail
        go_roundw
        case rel =>
          have hnew := HUP.out.put HO.out (i := at_ + j) (by have := HI.out; omega) c
          refine ⟨j + 1, _, by omega, by go_num, HT3.out, ⟨hnew.same, hnew.out, fun i hi => ?_⟩, HC3.out⟩
          rw [hnew.mem i hi]
          by_cases e : i = at_ + j
          · subst e
            rw [if_pos rfl, if_pos (by omega), Nat.add_sub_cancel_left, HC.out]
          · rw [if_neg e]
            by_cases e2 : at_ ≤ i ∧ i < at_ + j
            · rw [if_pos e2, if_pos (by omega)]
            · rw [if_neg e2, if_neg (by omega)]
        case measure => simp [intOf]; omega
      · obtain rfl : j = k := by omega
        have f1 : ¬ ((j : Int) < j) := by omega
        go_wp2_with fail
        go_ret
        exact ⟨rfl, Fr, HTR.out, (show j = min j 4 by omega) ▸ HUP.out, HCH.out⟩
  · subst h4
    go_enter Try.func59, Try.ntmps59
    go_wp2_with fail
    refine H.out.mono ?_; rintro e w2 ⟨rfl, rfl⟩
    go_wp2_with fail
    go_loopw [17] (fun r wx => ∃ (j : Nat) (Fr : Nat × Nat → Option (Nat → Nat)), j ≤ 4 ∧ r = .int .i64 j ∧ FP wx g gm a us Fr ∧ SpUpd F Fr ps (fun i => if at_ ≤ i ∧ i < at_ + j then n / 2 ^ (8 * (i - at_)) % 256 else spMem F ps i) ∧ Chg (fun k => k = g ∨ k = gm) w wx) (fun r _ => 4 - (intOf r).toNat)
    case atStart =>
      refine ⟨0, F, by omega, rfl, HT.out, ⟨fun _ => rfl, fun _ _ => rfl, fun i _ => ?_⟩, Chg.refl _ _⟩
      rw [if_neg (by omega)]
    case round =>
      obtain ⟨j, Fr, hj, rfl, htr, hup, hch⟩ := hrel
      have HTR := Lib.hid htr
      have HUP := Lib.hid hup
      have HCH := Lib.hid hch
      clear htr hup hch
      by_cases hjn : j < 4
      · have f1 : (j : Int) < 4 := by omega
        have f2 : IntKind.i64.wrap (at_ : Int) = at_ := by rw [IntKind.wrap_i64]; omega
        have f3 : IntKind.i64.wrap ((at_ : Int) + j) = ((at_ + j : Nat) : Int) := by rw [IntKind.wrap_i64]; omega
        have f4 : IntKind.i64.wrap (8 * (j : Int)) = ((8 * j : Nat) : Int) := by rw [IntKind.wrap_i64]; omega
        have f5 : ¬ (((8 * j : Nat) : Int) < 0) := by omega
        obtain ⟨c, hc⟩ : ∃ c, c = n / 2 ^ (8 * j) % 256 := ⟨_, rfl⟩
        have f6 : (n : Int) / 2 ^ (8 * j) % 256 = (c : Int) := by rw [hc]; simp
        have HC := Lib.hid hc
        have hset := spaceSet_in HTR.out (HS.out.chg2 HT.out HCH.out) (HUP.out.ok HO.out) (at_ + j) (by have := HI.out; omega) c
        have HSET := Lib.hid hset
        clear hset hc
        go_wp2_with fail
        refine HSET.out.mono ?_; rintro e w3 ⟨rfl, hT3, hC3⟩
        have HT3 := Lib.hid hT3
        have HC3 := Lib.hid (HCH.out.trans hC3 (fun k _ h => h))
        clear hT3 hC3 f6
        go_wp2_with fail
        go_roundw
        case rel =>
          have hnew := HUP.out.put HO.out (i := at_ + j) (by have := HI.out; omega) c
          refine ⟨j + 1, _, by omega, by go_num, HT3.out, ⟨hnew.same, hnew.out, fun i hi => ?_⟩, HC3.out⟩
          rw [hnew.mem i hi]
          by_cases e : i = at_ + j
          · subst e
            rw [if_pos rfl, if_pos (by omega), Nat.add_sub_cancel_left, HC.out]
          · rw [if_neg e]
            by_cases e2 : at_ ≤ i ∧ i < at_ + j
            · rw [if_pos e2, if_pos (by omega)]
            · rw [if_neg e2, if_neg (by omega)]
        case measure => simp [intOf]; omega
      · obtain rfl : j = 4 := by omega
        skip
        go_wp2_with fail
        go_ret
        exact ⟨rfl, Fr, HTR.out, (show 4 = min 4 4 by omega) ▸ HUP.out, HCH.out⟩
  · have h4' : ¬ ((k : Int) < 4) := by omega
    have h4'' : ¬ ((k : Int) ≤ 4) := by omega
    go_enter Try.func59, Try.ntmps59
    go_wp2_with fail
    refine H.out.mono ?_; rintro e w2 ⟨rfl, rfl⟩
    go_wp2_with fail
    go_loopw [17] (fun r wx => ∃ (j : Nat) (Fr : Nat × Nat → Option (Nat → Nat)), j ≤ 4 ∧ r = .int .i64 j ∧ FP wx g gm a us Fr ∧ SpUpd F Fr ps (fun i => if at_ ≤ i ∧ i < at_ + j then n / 2 ^ (8 * (i - at_)) % 256 else spMem F ps i) ∧ Chg (fun k => k = g ∨ k = gm) w wx) (fun r _ => 4 - (intOf r).toNat)
    case atStart =>
      refine ⟨0, F, by omega, rfl, HT.out, ⟨fun _ => rfl, fun _ _ => rfl, fun i _ => ?_⟩, Chg.refl _ _⟩
      rw [if_neg (by omega)]
    case round =>
      obtain ⟨j, Fr, hj, rfl, htr, hup, hch⟩ := hrel
      have HTR := Lib.hid htr
      have HUP := Lib.hid hup
      have HCH := Lib.hid hch
      clear htr hup hch
      by_cases hjn : j < 4
      · have f1 : (j : Int) < 4 := by omega
        have f2 : IntKind.i64.wrap (at_ : Int) = at_ := by rw [IntKind.wrap_i64]; omega
        have f3 : IntKind.i64.wrap ((at_ : Int) + j) = ((at_ + j : Nat) : Int) := by rw [IntKind.wrap_i64]; omega
        have f4 : IntKind.i64.wrap (8 * (j : Int)) = ((8 * j : Nat) : Int) := by rw [IntKind.wrap_i64]; omega
        have f5 : ¬ (((8 * j : Nat) : Int) < 0) := by omega
        obtain ⟨c, hc⟩ : ∃ c, c = n / 2 ^ (8 * j) % 256 := ⟨_, rfl⟩
        have f6 : (n : Int) / 2 ^ (8 * j) % 256 = (c : Int) := by rw [hc]; simp
        have HC := Lib.hid hc
        have hset := spaceSet_in HTR.out (HS.out.chg2 HT.out HCH.out) (HUP.out.ok HO.out) (at_ + j) (by have := HI.out; omega) c
        have HSET := Lib.hid hset
        clear hset hc
        go_wp2_with fail
        refine HSET.out.mono ?_; rintro e w3 ⟨rfl, hT3, hC3⟩
        have HT3 := Lib.hid hT3
        have HC3 := Lib.hid (HCH.out.trans hC3 (fun k _ h => h))
        clear hT3 hC3 f6
        go_wp2_with fail
        go_roundw
        case rel =>
          have hnew := HUP.out.put HO.out (i := at_ + j) (by have := HI.out; omega) c
          refine ⟨j + 1, _, by omega, by go_num, HT3.out, ⟨hnew.same, hnew.out, fun i hi => ?_⟩, HC3.out⟩
          rw [hnew.mem i hi]
          by_cases e : i = at_ + j
          · subst e
            rw [if_pos rfl, if_pos (by omega), Nat.add_sub_cancel_left, HC.out]
          · rw [if_neg e]
            by_cases e2 : at_ ≤ i ∧ i < at_ + j
            · rw [if_pos e2, if_pos (by omega)]
            · rw [if_neg e2, if_neg (by omega)]
        case measure => simp [intOf]; omega
      · obtain rfl : j = 4 := by omega
        skip
        go_wp2_with fail
        go_ret
        exact ⟨rfl, Fr, HTR.out, (show 4 = min k 4 by omega) ▸ HUP.out, HCH.out⟩
/-! ### Load -/
set_option maxRecDepth 100000 in
set_option maxHeartbeats 4000000 in
theorem spaceLoad_some (ht : FP w g gm a us F) (hs : SpV w base gs g lab ps v) (ok : SpOk F ps) (at_ k : Nat) (ha : at_ ≤ 4294967295) (hi : at_ + k ≤ 64 * ps.length) :
    Calls Try.prog 37 #[.pointer (some ⟨gs, 0, none⟩), .int .u32 at_, .int .i64 k] w fun e w' => (∃ x : Int, e = .returned (.tuple #[.int .u32 x, .int .i64 0])) ∧ Below w.heap.size w w' := by
  have h := spaceInside_in hs ok.len at_ ha k (by have := ok.len; omega) (by omega)
  rw [insideB_nat, decide_eq_true hi] at h
  have H := Lib.hid h
  have hk : k ≤ 2048 := by have := ok.len; omega
  have ha2 : at_ ≤ 2048 := by have := ok.len; omega
  have HT := Lib.hid ht
  have HS := Lib.hid hs
  have HO := Lib.hid ok
  have HI := Lib.hid hi
  clear h hs ht ok hi
  rcases (show k < 4 ∨ k = 4 ∨ 4 < k by omega) with h4 | h4 | h4
  · have h4' : (k : Int) < 4 := by omega
    have h4'' : (k : Int) ≤ 4 := by omega
    go_enter Try.func37, Try.ntmps37
    go_wp2_with fail
    refine H.out.mono ?_; rintro e w2 ⟨rfl, rfl⟩
    go_wp2_with fail
    go_loopw [8, 17] (fun s r wx => ∃ (j : Nat) (x : Int), j ≤ k ∧ s = .int .u32 x ∧ r = .int .i64 j ∧ Below w.heap.size w wx) (fun _ r _ => k - (intOf r).toNat)
    case atStart => exact ⟨0, 0, by omega, rfl, rfl, Below.refl _ _⟩
    case round =>
      obtain ⟨j, x, hj, rfl, rfl, hb⟩ := hrel
      have HB := Lib.hid hb
      clear hb
      by_cases hjn : j < k
      · have f1 : (j : Int) < k := by omega
        have f2 : IntKind.i64.wrap (at_ : Int) = at_ := by rw [IntKind.wrap_i64]; omega
        have f3 : IntKind.i64.wrap ((at_ : Int) + j) = ((at_ + j : Nat) : Int) := by rw [IntKind.wrap_i64]; omega
        have f4 : IntKind.i64.wrap (8 * (j : Int)) = ((8 * j : Nat) : Int) := by rw [IntKind.wrap_i64]; omega
        have f5 : ¬ (((8 * j : Nat) : Int) < 0) := by omega
        have hby := spaceByte_in (HT.out.keep HB.out) (HS.out.keep HB.out) HO.out (at_ + j) (by have := HI.out; omega)
        have HBY := Lib.hid hby
        clear hby
        go_wp2_with fail
        refine HBY.out.mono ?_; rintro e w3 ⟨rfl, hb3⟩
        have HB3 := Lib.hid (HB.out.trans (hb3.mono HB.out.size))
        obtain ⟨y, hy⟩ : ∃ y, y = spMem F ps (at_ + j) := ⟨_, rfl⟩
        rw [← hy]
        clear hb3 hy
        go_wp2_with fail
        go_roundw
        case rel => exact ⟨j + 1, _, by omega, rfl, by go_num, HB3.out⟩
        case measure => simp [intOf]; omega
      · obtain rfl : j = k := by omega
        have f1 : ¬ ((j : Int) < j) := by omega
        go_wp2_with fail
        go_ret2
        exact ⟨⟨_, rfl⟩, HB.out⟩
  · subst h4
    go_enter Try.func37, Try.ntmps37
    go_wp2_with fail
    refine H.out.mono ?_; rintro e w2 ⟨rfl, rfl⟩
    go_wp2_with fail
    go_loopw [8, 17] (fun s r wx => ∃ (j : Nat) (x : Int), j ≤ 4 ∧ s = .int .u32 x ∧ r = .int .i64 j ∧ Below w.heap.size w wx) (fun _ r _ => 4 - (intOf r).toNat)
    case atStart => exact ⟨0, 0, by omega, rfl, rfl, Below.refl _ _⟩
    case round =>
      obtain ⟨j, x, hj, rfl, rfl, hb⟩ := hrel
      have HB := Lib.hid hb
      clear hb
      by_cases hjn : j < 4
      · have f1 : (j : Int) < 4 := by omega
        have f2 : IntKind.i64.wrap (at_ : Int) = at_ := by rw [IntKind.wrap_i64]; omega
        have f3 : IntKind.i64.wrap ((at_ : Int) + j) = ((at_ + j : Nat) : Int) := by rw [IntKind.wrap_i64]; omega
        have f4 : IntKind.i64.wrap (8 * (j : Int)) = ((8 * j : Nat) : Int) := by rw [IntKind.wrap_i64]; omega
        have f5 : ¬ (((8 * j : Nat) : Int) < 0) := by omega
        have hby := spaceByte_in (HT.out.keep HB.out) (HS.out.keep HB.out) HO.out (at_ + j) (by have := HI.out; omega)
        have HBY := Lib.hid hby
        clear hby
        go_wp2_with fail
        refine HBY.out.mono ?_; rintro e w3 ⟨rfl, hb3⟩
        have HB3 := Lib.hid (HB.out.trans (hb3.mono HB.out.size))
        obtain ⟨y, hy⟩ : ∃ y, y = spMem F ps (at_ + j) := ⟨_, rfl⟩
        rw [← hy]
        clear hb3 hy
        go_wp2_with fail
        go_roundw
        case rel => exact ⟨j + 1, _, by omega, rfl, by go_num, HB3.out⟩
        case measure => simp [intOf]; omega
      · obtain rfl : j = 4 := by omega
        skip
        go_wp2_with fail
        go_ret2
        exact ⟨⟨_, rfl⟩, HB.out⟩
  · have h4' : ¬ ((k : Int) < 4) := by omega
    have h4'' : ¬ ((k : Int) ≤ 4) := by omega
    go_enter Try.func37, Try.ntmps37
    go_wp2_with fail
    refine H.out.mono ?_; rintro e w2 ⟨rfl, rfl⟩
    go_wp2_with fail
    go_loopw [8, 17] (fun s r wx => ∃ (j : Nat) (x : Int), j ≤ 4 ∧ s = .int .u32 x ∧ r = .int .i64 j ∧ Below w.heap.size w wx) (fun _ r _ => 4 - (intOf r).toNat)
    case atStart => exact ⟨0, 0, by omega, rfl, rfl, Below.refl _ _⟩
    case round =>
      obtain ⟨j, x, hj, rfl, rfl, hb⟩ := hrel
      have HB := Lib.hid hb
      clear hb
      by_cases hjn : j < 4
      · have f1 : (j : Int) < 4 := by omega
        have f2 : IntKind.i64.wrap (at_ : Int) = at_ := by rw [IntKind.wrap_i64]; omega
        have f3 : IntKind.i64.wrap ((at_ : Int) + j) = ((at_ + j : Nat) : Int) := by rw [IntKind.wrap_i64]; omega
        have f4 : IntKind.i64.wrap (8 * (j : Int)) = ((8 * j : Nat) : Int) := by rw [IntKind.wrap_i64]; omega
        have f5 : ¬ (((8 * j : Nat) : Int) < 0) := by omega
        have hby := spaceByte_in (HT.out.keep HB.out) (HS.out.keep HB.out) HO.out (at_ + j) (by have := HI.out; omega)
        have HBY := Lib.hid hby
        clear hby
        go_wp2_with fail
        refine HBY.out.mono ?_; rintro e w3 ⟨rfl, hb3⟩
        have HB3 := Lib.hid (HB.out.trans (hb3.mono HB.out.size))
        obtain ⟨y, hy⟩ : ∃ y, y = spMem F ps (at_ + j) := ⟨_, rfl⟩
        rw [← hy]
        clear hb3 hy
        go_wp2_with fail
        go_roundw
        case rel => exact ⟨j + 1, _, by omega, rfl, by go_num, HB3.out⟩
        case measure => simp [intOf]; omega
      · obtain rfl : j = 4 := by omega
        skip
        go_wp2_with fail
        go_ret2
        exact ⟨⟨_, rfl⟩, HB.out⟩
end
end Go.Proofs.Ytapcbfeifeobhaa
