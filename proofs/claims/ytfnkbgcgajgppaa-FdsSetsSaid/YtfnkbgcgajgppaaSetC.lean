/- The law FdsSets: its walk. -/
import Derived.Test.YtfnkbgcgajgppaaSetB
import Derived.Deep.CutBlock
set_option linter.unusedVariables false
set_option linter.unusedSimpArgs false
namespace Go.Proofs.Ytfnkbgcgajgppaa
open Go.RowKit

def actZ : Array Value := #[.int .u8 0, .int .u8 0, .int .u8 0, .int .i64 0, .int .u8 0, .int .u8 0, .int .u16 0, .int .u16 0, .bool false, .int .u8 0, .int .u16 0, .int .u16 0, .int .i64 0, .int .i64 0, .bool false, .bool false, .bool false, .string ⟨#[]⟩]

/-- The first that is not taken, looked for from the end downwards. -/
def frD (mp : Nat → Option Nat) : Nat → Int
  | 0 => -1
  | d + 1 => if (mp (7 - d)).isNone then 7 - (d : Int) else frD mp d
theorem frD_next (mp : Nat → Option Nat) (d : Nat) : frD mp (d + 1) = if (mp (7 - d)).isNone then 7 - (d : Int) else frD mp d := rfl
theorem frD_full (mp : Nat → Option Nat) (h : ∀ j, j < 8 → mp j ≠ none) : frD mp 8 = -1 := by
  have key : ∀ d, d ≤ 8 → frD mp d = -1 := by
    intro d
    induction d with
    | zero => intro _; rfl
    | succ d ih =>
      intro hd
      rw [frD_next, if_neg (by have := h (7 - d) (by omega); cases hm : mp (7 - d) with | none => exact absurd hm this | some b => simp)]
      exact ih (by omega)
  exact key 8 (by omega)
theorem frD_first (mp : Nat → Option Nat) (k : Nat) (hk : k < 8) (h0 : mp k = none) (hl : ∀ j, j < k → mp j ≠ none) : frD mp 8 = k := by
  have key : ∀ d, d ≤ 8 → 8 - d ≤ k → frD mp d = k := by
    intro d
    induction d with
    | zero => intro _ h; omega
    | succ d ih =>
      intro hd hkd
      rw [frD_next]
      by_cases e : k = 7 - d
      · subst e
        rw [if_pos (by rw [h0]; rfl)]
        omega
      · by_cases hn : mp (7 - d) = none
        · exact absurd hn (hl (7 - d) (by omega))
        · rw [if_neg (by cases hm : mp (7 - d) with | none => exact absurd hm hn | some b => simp)]
          exact ih (by omega) (by omega)
  exact key 8 (by omega) (by omega)
theorem intVs_si {w : World} {v : Value} {l : List Nat} {k : Nat} (h : SR w v l.length 1 (intVs l)) (hl : ∀ x ∈ l, x < k) (hk : k ≤ 1000 := by omega) : SI w .i64 v (l.map fun (x : Nat) => (x : Int)) := by
  refine ⟨?_, fun z hz => ?_⟩
  · simpa [intVs, Function.comp_def] using h
  · simp only [List.mem_map] at hz
    obtain ⟨c, hc, rfl⟩ := hz
    have := hl c hc
    exact i64_wf (by omega)
/-- Is the number taken? -/
def hasB (M : Nat → Option (Nat × Nat)) (y : Int) : Bool := decide (0 ≤ y) && decide (y < 8) && (M y.toNat).isSome

theorem hasB_yes {W w : World} {gs gp : Nat} {M : Nat → Option (Nat × Nat)} {mp : Nat → Option Nat} {y : Int} (h : SS W w gs gp M mp) (hb : hasB M y = true) :
    ∃ (k : Nat) (q : Nat × Nat) (b : Nat), y = k ∧ k < 8 ∧ M k = some q ∧ mp k = some b ∧ q.1 ≤ 255 ∧ q.2 ≤ 65535 ∧ w.heap[b]? = some (.cells #[.int .u8 q.1, .int .u16 q.2] 69 (0, 0)) := by
  unfold hasB at hb
  simp only [Bool.and_eq_true, decide_eq_true_eq] at hb
  obtain ⟨⟨h0, h8⟩, hm⟩ := hb
  have he := h.eq y.toNat
  rw [hm] at he
  cases hp : mp y.toNat with
  | none => rw [hp] at he; cases he
  | some b =>
    obtain ⟨q, h1, h2, h3, h4⟩ := h.bk _ b hp
    exact ⟨y.toNat, q, b, by omega, by omega, h1, hp, h2, h3, h4⟩
theorem hasB_no {M : Nat → Option (Nat × Nat)} {y : Int} (hb : hasB M y = false) : y < 0 ∨ 8 ≤ y ∨ ∃ n : Nat, y = n ∧ n < 8 ∧ M n = none := by
  by_cases h0 : y < 0
  · exact .inl h0
  · by_cases h8 : 8 ≤ y
    · exact .inr (.inl h8)
    · refine .inr (.inr ⟨y.toNat, by omega, by omega, ?_⟩)
      unfold hasB at hb
      cases hm : M y.toNat with
      | none => rfl
      | some q =>
        rw [hm] at hb
        simp at hb
        omega

set_option maxRecDepth 200000 in
set_option maxHeartbeats 16000000 in
theorem fdsSets_walk (W : World) (v0 : Value) (o0 : Arg Try.prog W 106 v0) :
    Calls Try.prog 12 #[v0] W fun e w' => e = .returned (.bool true) ∧ Below W.heap.size W w' := by
  obtain ⟨n, xs, hs, hx⟩ := SR.of_arg (e := 110) Try.underlying106 (by rw [show Try.prog.cellsOf 110 = 18 by kernel_rfl]; omega) o0
  have e18 : Try.prog.cellsOf 110 = 18 := by kernel_rfl
  rw [e18] at hs hx
  obtain ⟨A, cap, rfl, hn1, hn2⟩ := hs.form
  have hnm : (n : Int) ≤ 9223372036854775807 := by unfold maxLen at hn2; omega
  have HS := Lib.hid hs
  have HX := Lib.hid hx
  clear hs hx o0 e18
  obtain ⟨zA, hzA⟩ : ∃ z, z = actZ := ⟨_, rfl⟩
  have HZA := Lib.hid (show (Try.prog.info? 110).bind (·.zero) = some (.agg zA) by rw [hzA]; kernel_rfl)
  have HZAS := Lib.hid (show zA.size = 18 by rw [hzA]; rfl)
  clear hzA
  go_enter Try.func12, Try.ntmps12
  go_wp2_with fail
  refine (fdsAwake_in _).mono ?_; rintro e w1 ⟨rfl, hb1⟩
  have HB1 := Lib.hid hb1
  clear hb1
  obtain ⟨zS, hzS⟩ : ∃ z, z = rowArr 24 (slotF fun _ => none) := ⟨_, rfl⟩
  obtain ⟨zP, hzP⟩ : ∃ z, z = rowArr 8 (ptrF fun _ => none) := ⟨_, rfl⟩
  have HZS := Lib.hid hzS
  have HZP := Lib.hid hzP
  have HzS := Lib.hid (show (Try.prog.info? 123).bind (·.zero) = some (.agg zS) by rw [hzS]; kernel_rfl)
  have HzP := Lib.hid (show (Try.prog.info? 125).bind (·.zero) = some (.agg zP) by rw [hzP]; kernel_rfl)
  clear hzS hzP
  go_wp2_with (first | (refine wpList_allocTo rfl 123 rfl (some 3) rfl (.agg zS) HzS.out ?_) | (refine wpList_allocTo rfl 125 rfl (some 4) rfl (.agg zP) HzP.out ?_))
  have hb3 := bnewAfter (bnew w1 (.cells zS 123)) (.cells zP 125)
  have hr1 : ((w1.alloc (.cells zS 123)).alloc (.cells zP 125)).heap[w1.heap.size]? = some (.cells zS 123 (0, 0)) := bkeep (bnew _ _) (heap_alloc_last w1 _)
  have hr2 := heap_alloc_last (w1.alloc (.cells zS 123)) (.cells zP 125)
  rw [World.size_alloc] at hr2
  have hSS : SS W ((w1.alloc (.cells zS 123)).alloc (.cells zP 125)) w1.heap.size (w1.heap.size + 1) (fun _ => none) (fun _ => none) :=
    ⟨bnext HB1.out hb3, rowIs_of_arr (by rw [← HZS.out]; exact hr1), rowIs_of_arr (by rw [← HZP.out]; exact hr2), fun _ => rfl, (fun j b h => by cases h), HB1.out.size, by have := HB1.out.size; omega⟩
  have HSS := Lib.hid hSS
  clear hb3 hr1 hr2 hSS
  obtain ⟨gs, hgs⟩ : ∃ g, g = w1.heap.size := ⟨_, rfl⟩
  obtain ⟨gp, hgp⟩ : ∃ g, g = w1.heap.size + 1 := ⟨_, rfl⟩
  generalize hw3 : (w1.alloc (.cells zS 123)).alloc (.cells zP 125) = w3 at *
  rw [← hgp, ← hgs] at HSS
  try rw [show (Value.agg zS).cells = zS from rfl, show (Value.agg zP).cells = zP from rfl, hw3]
  rw [← hgp, ← hgs]
  clear hgs hgp hw3
  go_loopw [25] (fun r wr => ∃ (i : Nat) (M : Nat → Option (Nat × Nat)) (mp : Nat → Option Nat), i ≤ n ∧ r = .int .i64 i ∧ SS W wr gs gp M mp) (fun r _ => n - (intOf r).toNat)
  case atStart => exact ⟨0, _, _, by omega, rfl, HSS.out⟩
  case round =>
    obtain ⟨i, M, mp, hi, rfl, hss⟩ := hrel
    have HSR := Lib.hid hss
    clear hss
    by_cases hlt : i < n
    · obtain ⟨m, hok⟩ := HX.out i hlt
      obtain ⟨hcl, hco, kd, lab, num, off, e0, e1, e2, e3, k1, k2, k3, k4, k5⟩ := act24 hok
      obtain ⟨C, hC⟩ : ∃ C : Array Value, C = ((xs.drop (i * 18)).take 18).toArray := ⟨_, rfl⟩
      have HCS := Lib.hid (show C.size = 18 by rw [hC]; simpa using hcl)
      have HCO := Lib.hid (show ∀ v ∈ C.toList, v.oneCell' = true by rw [hC]; exact hco)
      have q0 : C[0]? = some (.int .u8 kd) := by rw [hC]; simpa using e0
      have q1 : C[1]? = some (.int .u8 lab) := by rw [hC]; simpa using e1
      have q2 : C[2]? = some (.int .u8 num) := by rw [hC]; simpa using e2
      have q3 : C[3]? = some (.int .i64 off) := by rw [hC]; simpa using e3
      rcases HS.out.cases with ⟨h, _⟩ | ⟨_, ga, o_, cz, hsl, _, _, hga, hca⟩
      · omega
      cases hsl
      have hpc : ∀ j v, C.toList[j]? = some v → wr.cell? ⟨ga, o_ + i * 18 + j, none⟩ = some v := fun j v hj => by
        have hj18 : j < 18 := by
          rcases Nat.lt_or_ge j 18 with h | h
          · exact h
          · rw [List.getElem?_eq_none (by have := HCS.out; simp; omega)] at hj; cases hj
        rw [World.cell?_of_block (w := W) (a := ⟨ga, o_ + i * 18 + j, none⟩) (HSR.out.bl.block ga hga), Nat.add_assoc, hca (i * 18 + j) (by omega)]
        rw [hC] at hj
        simpa [List.getElem?_take_of_lt hj18] using hj
      have HPC := Lib.hid hpc
      clear hpc hca hC hcl hco e0 e1 e2 e3 hok
      have hlti : (i : Int) < n := by omega
      have hCs : (Try.prog.info? 110).map (·.size) = some C.size := by rw [HCS.out]; kernel_rfl
      have HCs := Lib.hid hCs
      clear hCs
      go_wp2_with (first | (refine wpList_load_pieceTo rfl 110 (.tmp 28) rfl (some 29) rfl ga (o_ + i * 18) rfl C _ HPC.out Try.underlying110 rfl HCs.out ?_) | (refine wpList_allocTo rfl 110 rfl (some 6) rfl (.agg zA) HZA.out ?_) | (with_reducible refine wpList_stop none rfl ?_))
      refine Lib.hid ?_
      refine wpList_store_pieceTo rfl 110 _ _ rfl rfl wr.heap.size 0 C (by go_simp) (by go_simp) HCs.out (fun j hj => by rw [Nat.zero_add, rowcell (heap_alloc_last wr _), Array.getElem?_eq_getElem (by rw [HCS.out] at hj; rw [HZAS.out]; exact hj)]; rfl) (fun j hj => rowfree (heap_alloc_last wr _) _) HCO.out (fun wA hwA => ?_)
      obtain ⟨e9, o9⟩ := setCells_whole (cs := C) (heap_alloc_last wr (.cells zA 110)) (by rw [HCS.out, HZAS.out])
      rw [← hwA] at e9 o9
      have hbA : Below wr.heap.size wr wA := bone (bnew wr _) o9 (Nat.le_refl _) (bnew wr (.cells zA 110)).size
      have HSA := Lib.hid (HSR.out.keep hbA)
      obtain ⟨N, hN⟩ : ∃ N, N = wr.heap.size := ⟨_, rfl⟩
      rw [← hN] at e9
      try rw [← hN]
      have HA := Lib.hid e9
      have hcA := rowcell e9
      clear hwA o9 hbA hN e9
      have c0 := (hcA 0).trans q0
      have c1 := (hcA 1).trans q1
      have c2 := (hcA 2).trans q2
      have c3 := (hcA 3).trans q3
      clear hcA
      by_cases h80 : 80 < i
      · have h80' : (80 : Int) < i := by omega
        go_wp2_with fail
        go_ret
        exact ⟨rfl, HSA.out.bl⟩
      · have h80' : ¬ (80 : Int) < i := by omega
        go_upto_if 39 with fail
        go_cut [7] (fun s7 wx => ∃ y : Int, s7 = .int .i64 y ∧ -9223372036854775808 ≤ y ∧ y ≤ 9223372036854775807 ∧ wx = wA)
        case first =>
          by_cases h5 : (off.tmod 5 == 0) = true
          · go_wp2_with fail
            go_meet
            exact ⟨_, rfl, k4, k5, rfl⟩
          · have h5' : (off.tmod 5 == 0) = false := by simpa using h5
            go_wp2_with fail
            go_meet
            exact ⟨_, rfl, by omega, by omega, rfl⟩
        case rest =>
          obtain ⟨y, rfl, hy0, hy1, rfl⟩ := hcut
          have HQ0 := Lib.hid q0
          clear c2 c3 q0 q1 q2 q3
          go_at_K
          go_step
          have d1 : IntKind.u16.wrap (i : Int) = i := by rw [IntKind.wrap_u16]; omega
          obtain ⟨hb, hbb⟩ : ∃ b, b = hasB M y := ⟨_, rfl⟩
          have HHB := Lib.hid hbb
          clear hbb
          go_upto_region 13 with fail
          have hbB := bnew wc (.cells #[.int .u8 lab, .int .u16 i] 69)
          have HSB := Lib.hid (HSA.out.keep hbB)
          have hB := heap_alloc_last wc (.cells #[.int .u8 lab, .int .u16 i] 69)
          have hA2 := bkeep hbB HA.out
          obtain ⟨N2, hN2⟩ : ∃ N, N = wc.heap.size := ⟨_, rfl⟩
          rw [← hN2] at hB
          try rw [← hN2]
          generalize wc.alloc (.cells #[.int .u8 lab, .int .u16 i] 69) = wB at *
          have HB := Lib.hid hB
          have HA2 := Lib.hid hA2
          clear hB hA2 hbB hN2 c1 c0
          go_cut [9] (fun s9 wx => s9 = .bool hb ∧ wx = wB)
          case first =>
            by_cases y0 : 0 ≤ y
            · by_cases y8 : y < 8
              · obtain ⟨k, rfl⟩ : ∃ k : Nat, y = k := ⟨y.toNat, by omega⟩
                have hk : k < 8 := by omega
                have cp := HSB.out.ptr hk
                have he := HSB.out.eq k
                cases hm : mp k with
                | none =>
                  rw [hm] at cp he
                  have HE := Lib.hid (show hb = false by rw [HHB.out]; simp [hasB, ← he])
                  clear hm he
                  go_wp2_with fail
                  go_meet
                  exact ⟨by rw [HE.out], rfl⟩
                | some b =>
                  rw [hm] at cp he
                  have HE := Lib.hid (show hb = true by rw [HHB.out]; simp [hasB, ← he]; omega)
                  clear hm he
                  go_wp2_with fail
                  go_meet
                  exact ⟨by rw [HE.out], rfl⟩
              · have HE := Lib.hid (show hb = false by rw [HHB.out]; simp [hasB]; omega)
                go_wp2_with fail
                go_meet
                exact ⟨by rw [HE.out], rfl⟩
            · have HE := Lib.hid (show hb = false by rw [HHB.out]; simp [hasB]; omega)
              go_wp2_with fail
              go_meet
              exact ⟨by rw [HE.out], rfl⟩
          case rest =>
            obtain ⟨rfl, rfl⟩ := hcut
            go_at_K
            go_step
            have c0 := (rowcell HA2.out 0).trans HQ0.out
            have cB := rowcell HB.out
            go_upto_block 2 with fail
            go_cut [] (fun wx => ∃ M' mp', SS W wx gs gp M' mp')
            case first =>
              clear c0
              have h5 : (kd : Int) % 5 = 0 ∨ (kd : Int) % 5 = 1 ∨ (kd : Int) % 5 = 2 ∨ (kd : Int) % 5 = 3 ∨ (kd : Int) % 5 = 4 := by omega
              rcases h5 with h5 | h5 | h5 | h5 | h5
              · as_aux_lemma =>
                  have b0 : ((kd : Int) % 5 == 0) = true := by rw [h5]; rfl
                  clear h5
                  rcases first_free M with ⟨k, hk, hkf, hkl⟩ | hfull
                  · have hfr := frD_first mp k hk (by have := HSB.out.eq k; rw [hkf] at this; cases hm : mp k with | none => rfl | some b => (rw [hm] at this; cases this)) (fun j hj => by have := HSB.out.eq j; rw [hkl j hj] at this; intro hm; rw [hm] at this; cases this)
                    have HFR := Lib.hid hfr
                    clear hfr
                    have HKF := Lib.hid hkf
                    have HKL := Lib.hid hkl
                    clear hkf hkl
                    go_wp2_with fail
                    refine (setPut_free HSB.out.ns (lab, i) k hk HKF.out HKL.out).mono ?_
                    rintro e wP ⟨rfl, hnP, hoP⟩
                    have HNP := Lib.hid hnP
                    have HOP := Lib.hid hoP
                    have HPP := Lib.hid (show wP.rowIs gp 125 8 (ptrF mp) from HSB.out.pr.of_block (hoP.block gp HSB.out.pr.lt (fun e => HSB.out.ne (by cases e; rfl))))
                    clear hnP hoP
                    go_wp2_with fail
                    go_loop [12, 13] (fun a b => ∃ d : Nat, d ≤ 8 ∧ a = .int .i64 (frD mp d) ∧ b = .int .i64 (7 - (d : Int))) (fun _ b => (intOf b + 1).toNat)
                    case atStart => exact ⟨0, by omega, rfl, by go_num⟩
                    case round =>
                      obtain ⟨d, hd, rfl, rfl⟩ := hrel
                      by_cases hd8 : d < 8
                      · have cp : wP.cell? ⟨gp, 7 - d, none⟩ = some (.pointer ((mp (7 - d)).map fun b => ⟨b, 0, none⟩)) := HPP.out.cell (by omega)
                        have f1 : ((7 : Int) - (d : Int)).toNat = 7 - d := by omega
                        have f2 : (0 : Int) ≤ 7 - (d : Int) := by omega
                        have f3 : (7 : Int) - (d : Int) < 8 := by omega
                        have f4 : IntKind.i64.wrap (7 - (d : Int) - 1) = 7 - ((d + 1 : Nat) : Int) := by rw [IntKind.wrap_i64]; omega
                        have hnx := frD_next mp d
                        cases hm : mp (7 - d) with
                        | none =>
                          rw [hm] at cp
                          have HNX := Lib.hid (show frD mp (d + 1) = 7 - (d : Int) by rw [hnx, hm]; simp)
                          clear hm hnx
                          go_wp2_with fail
                          go_round
                          case rel => exact ⟨d + 1, by omega, by rw [HNX.out], by go_num⟩
                          case measure => simp [intOf]; omega
                        | some b =>
                          rw [hm] at cp
                          have HNX := Lib.hid (show frD mp (d + 1) = frD mp d by rw [hnx, hm]; simp)
                          clear hm hnx
                          go_wp2_with fail
                          go_round
                          case rel => exact ⟨d + 1, by omega, by rw [HNX.out], by go_num⟩
                          case measure => simp [intOf]; omega
                      · obtain rfl : d = 8 := by omega
                        have f2 : ¬ ((0 : Int) ≤ 7 - ((8 : Nat) : Int)) := by omega
                        rw [HFR.out]
                        have cp := HPP.out.cell (i := k) hk
                        have cf := HPP.out.frozen
                        have f3 : (k : Int) < 8 := by omega
                        have f4 : ¬ ((k : Int) < 0) := by omega
                        go_wp2_with fail
                        go_meet
                        exact ⟨_, _, HSB.out.upd HOP.out k (some (lab, i)) (some N2) HNP.out hk rfl (fun b hb => by cases hb; exact ⟨(lab, i), rfl, k2, by show i ≤ 65535; omega, HOP.out.blk HB.out (fun e => (HSB.out.ne_id HB.out).1 (by cases e; rfl))⟩)⟩
                  · have hfr := frD_full mp (fun j hj => by have := HSB.out.eq j; rw [hfull j hj] at this; intro hm; rw [hm] at this; cases this)
                    have HFR := Lib.hid hfr
                    have HFU := Lib.hid hfull
                    clear hfr hfull
                    go_wp2_with fail
                    refine (setPut_full HSB.out.ns (lab, i) HFU.out).mono ?_
                    rintro e wP ⟨rfl, hbP⟩
                    have HSP := Lib.hid (HSB.out.keep hbP)
                    clear hbP
                    go_wp2_with fail
                    go_loop [12, 13] (fun a b => ∃ d : Nat, d ≤ 8 ∧ a = .int .i64 (frD mp d) ∧ b = .int .i64 (7 - (d : Int))) (fun _ b => (intOf b + 1).toNat)
                    case atStart => exact ⟨0, by omega, rfl, by go_num⟩
                    case round =>
                      obtain ⟨d, hd, rfl, rfl⟩ := hrel
                      by_cases hd8 : d < 8
                      · have cp : wP.cell? ⟨gp, 7 - d, none⟩ = some (.pointer ((mp (7 - d)).map fun b => ⟨b, 0, none⟩)) := HSP.out.pr.cell (by omega)
                        have f1 : ((7 : Int) - (d : Int)).toNat = 7 - d := by omega
                        have f2 : (0 : Int) ≤ 7 - (d : Int) := by omega
                        have f3 : (7 : Int) - (d : Int) < 8 := by omega
                        have f4 : IntKind.i64.wrap (7 - (d : Int) - 1) = 7 - ((d + 1 : Nat) : Int) := by rw [IntKind.wrap_i64]; omega
                        have hnx := frD_next mp d
                        cases hm : mp (7 - d) with
                        | none =>
                          rw [hm] at cp
                          have HNX := Lib.hid (show frD mp (d + 1) = 7 - (d : Int) by rw [hnx, hm]; simp)
                          clear hm hnx
                          go_wp2_with fail
                          go_round
                          case rel => exact ⟨d + 1, by omega, by rw [HNX.out], by go_num⟩
                          case measure => simp [intOf]; omega
                        | some b =>
                          rw [hm] at cp
                          have HNX := Lib.hid (show frD mp (d + 1) = frD mp d by rw [hnx, hm]; simp)
                          clear hm hnx
                          go_wp2_with fail
                          go_round
                          case rel => exact ⟨d + 1, by omega, by rw [HNX.out], by go_num⟩
                          case measure => simp [intOf]; omega
                      · obtain rfl : d = 8 := by omega
                        have f2 : ¬ ((0 : Int) ≤ 7 - ((8 : Nat) : Int)) := by omega
                        rw [HFR.out]
                        go_wp2_with fail
                        go_roundw
                        case rel => exact ⟨i + 1, M, mp, by omega, by go_num, HSP.out⟩
                        case measure => simp [intOf]; omega
              · as_aux_lemma =>
                  have b0 : ((kd : Int) % 5 == 0) = false := by rw [h5]; rfl
                  have b1 : ((kd : Int) % 5 == 1) = true := by rw [h5]; rfl
                  clear h5
                  rcases first_free M with ⟨k, hk, hkf, hkl⟩ | hfull
                  · have hfr := frD_first mp k hk (by have := HSB.out.eq k; rw [hkf] at this; cases hm : mp k with | none => rfl | some b => (rw [hm] at this; cases this)) (fun j hj => by have := HSB.out.eq j; rw [hkl j hj] at this; intro hm; rw [hm] at this; cases this)
                    have HFR := Lib.hid hfr
                    clear hfr
                    have HKF := Lib.hid hkf
                    have HKL := Lib.hid hkl
                    clear hkf hkl
                    go_wp2_with fail
                    refine (setPut_free HSB.out.ns (lab, i) k hk HKF.out HKL.out).mono ?_
                    rintro e wP ⟨rfl, hnP, hoP⟩
                    have HNP := Lib.hid hnP
                    have HOP := Lib.hid hoP
                    have HPP := Lib.hid (show wP.rowIs gp 125 8 (ptrF mp) from HSB.out.pr.of_block (hoP.block gp HSB.out.pr.lt (fun e => HSB.out.ne (by cases e; rfl))))
                    clear hnP hoP
                    go_wp2_with fail
                    go_loop [12, 13] (fun a b => ∃ d : Nat, d ≤ 8 ∧ a = .int .i64 (frD mp d) ∧ b = .int .i64 (7 - (d : Int))) (fun _ b => (intOf b + 1).toNat)
                    case atStart => exact ⟨0, by omega, rfl, by go_num⟩
                    case round =>
                      obtain ⟨d, hd, rfl, rfl⟩ := hrel
                      by_cases hd8 : d < 8
                      · have cp : wP.cell? ⟨gp, 7 - d, none⟩ = some (.pointer ((mp (7 - d)).map fun b => ⟨b, 0, none⟩)) := HPP.out.cell (by omega)
                        have f1 : ((7 : Int) - (d : Int)).toNat = 7 - d := by omega
                        have f2 : (0 : Int) ≤ 7 - (d : Int) := by omega
                        have f3 : (7 : Int) - (d : Int) < 8 := by omega
                        have f4 : IntKind.i64.wrap (7 - (d : Int) - 1) = 7 - ((d + 1 : Nat) : Int) := by rw [IntKind.wrap_i64]; omega
                        have hnx := frD_next mp d
                        cases hm : mp (7 - d) with
                        | none =>
                          rw [hm] at cp
                          have HNX := Lib.hid (show frD mp (d + 1) = 7 - (d : Int) by rw [hnx, hm]; simp)
                          clear hm hnx
                          go_wp2_with fail
                          go_round
                          case rel => exact ⟨d + 1, by omega, by rw [HNX.out], by go_num⟩
                          case measure => simp [intOf]; omega
                        | some b =>
                          rw [hm] at cp
                          have HNX := Lib.hid (show frD mp (d + 1) = frD mp d by rw [hnx, hm]; simp)
                          clear hm hnx
                          go_wp2_with fail
                          go_round
                          case rel => exact ⟨d + 1, by omega, by rw [HNX.out], by go_num⟩
                          case measure => simp [intOf]; omega
                      · obtain rfl : d = 8 := by omega
                        have f2 : ¬ ((0 : Int) ≤ 7 - ((8 : Nat) : Int)) := by omega
                        rw [HFR.out]
                        have cp := HPP.out.cell (i := k) hk
                        have cf := HPP.out.frozen
                        have f3 : (k : Int) < 8 := by omega
                        have f4 : ¬ ((k : Int) < 0) := by omega
                        go_wp2_with fail
                        go_meet
                        exact ⟨_, _, HSB.out.upd HOP.out k (some (lab, i)) (some N2) HNP.out hk rfl (fun b hb => by cases hb; exact ⟨(lab, i), rfl, k2, by show i ≤ 65535; omega, HOP.out.blk HB.out (fun e => (HSB.out.ne_id HB.out).1 (by cases e; rfl))⟩)⟩
                  · have hfr := frD_full mp (fun j hj => by have := HSB.out.eq j; rw [hfull j hj] at this; intro hm; rw [hm] at this; cases this)
                    have HFR := Lib.hid hfr
                    have HFU := Lib.hid hfull
                    clear hfr hfull
                    go_wp2_with fail
                    refine (setPut_full HSB.out.ns (lab, i) HFU.out).mono ?_
                    rintro e wP ⟨rfl, hbP⟩
                    have HSP := Lib.hid (HSB.out.keep hbP)
                    clear hbP
                    go_wp2_with fail
                    go_loop [12, 13] (fun a b => ∃ d : Nat, d ≤ 8 ∧ a = .int .i64 (frD mp d) ∧ b = .int .i64 (7 - (d : Int))) (fun _ b => (intOf b + 1).toNat)
                    case atStart => exact ⟨0, by omega, rfl, by go_num⟩
                    case round =>
                      obtain ⟨d, hd, rfl, rfl⟩ := hrel
                      by_cases hd8 : d < 8
                      · have cp : wP.cell? ⟨gp, 7 - d, none⟩ = some (.pointer ((mp (7 - d)).map fun b => ⟨b, 0, none⟩)) := HSP.out.pr.cell (by omega)
                        have f1 : ((7 : Int) - (d : Int)).toNat = 7 - d := by omega
                        have f2 : (0 : Int) ≤ 7 - (d : Int) := by omega
                        have f3 : (7 : Int) - (d : Int) < 8 := by omega
                        have f4 : IntKind.i64.wrap (7 - (d : Int) - 1) = 7 - ((d + 1 : Nat) : Int) := by rw [IntKind.wrap_i64]; omega
                        have hnx := frD_next mp d
                        cases hm : mp (7 - d) with
                        | none =>
                          rw [hm] at cp
                          have HNX := Lib.hid (show frD mp (d + 1) = 7 - (d : Int) by rw [hnx, hm]; simp)
                          clear hm hnx
                          go_wp2_with fail
                          go_round
                          case rel => exact ⟨d + 1, by omega, by rw [HNX.out], by go_num⟩
                          case measure => simp [intOf]; omega
                        | some b =>
                          rw [hm] at cp
                          have HNX := Lib.hid (show frD mp (d + 1) = frD mp d by rw [hnx, hm]; simp)
                          clear hm hnx
                          go_wp2_with fail
                          go_round
                          case rel => exact ⟨d + 1, by omega, by rw [HNX.out], by go_num⟩
                          case measure => simp [intOf]; omega
                      · obtain rfl : d = 8 := by omega
                        have f2 : ¬ ((0 : Int) ≤ 7 - ((8 : Nat) : Int)) := by omega
                        rw [HFR.out]
                        go_wp2_with fail
                        go_roundw
                        case rel => exact ⟨i + 1, M, mp, by omega, by go_num, HSP.out⟩
                        case measure => simp [intOf]; omega
              · as_aux_lemma =>
                  have b0 : ((kd : Int) % 5 == 0) = false := by rw [h5]; rfl
                  have b1 : ((kd : Int) % 5 == 1) = false := by rw [h5]; rfl
                  have b2 : ((kd : Int) % 5 == 2) = true := by rw [h5]; rfl
                  clear h5
                  cases hb with
                  | true =>
                    obtain ⟨k, q, b, rfl, hk, hMk, hmk, hq1, hq2, hbk⟩ := hasB_yes HSB.out (HHB.out.symm)
                    have HMK := Lib.hid hMk
                    have HMP := Lib.hid hmk
                    have HBK := Lib.hid hbk
                    have HNB := Lib.hid (HSB.out.ne_id hbk)
                    clear hMk hmk hbk
                    have eqq : ∀ w : World, (Op.equalIn 10000 69 (.agg #[.int .u8 q.1, .int .u16 q.2]) (.agg #[.int .u8 q.1, .int .u16 q.2])).run Try.prog w = .ok true w := fun w => by have := eqId q q hq1 hq2 hq1 hq2 w; rwa [decide_eq_true rfl] at this
                    have f3 : (k : Int) < 8 := by omega
                    go_wp2_with fail
                    refine (setCut_gen HSB.out.ns k q k hk rfl HMK.out).mono ?_
                    rintro e wP ⟨rfl, hnP, hoP⟩
                    have hbQ := bnew wP (.cells #[.int .u8 q.1, .int .u16 q.2] 69)
                    have hq := heap_alloc_last wP (.cells #[.int .u8 q.1, .int .u16 q.2] 69)
                    have HNP := Lib.hid (show NS _ gs (setM M k none) from hnP.of_block (hbQ.block gs hnP.lt))
                    have HOP := Lib.hid (hoP.trans (one_of_below hbQ (some gs)))
                    have cq := rowcell hq
                    have hpp : (wP.alloc (.cells #[.int .u8 q.1, .int .u16 q.2] 69)).rowIs gp 125 8 (ptrF mp) := HSB.out.pr.of_block (HOP.out.block gp HSB.out.pr.lt (fun e => HSB.out.ne (by cases e; rfl)))
                    have cp := hpp.cell (i := k) hk
                    have cf := hpp.frozen
                    unfold ptrF at cp
                    rw [HMP.out] at cp
                    have cb := rowcell (HOP.out.blk HBK.out (fun e => HNB.out.1 (by cases e; rfl)))
                    clear hnP hoP hbQ hq hpp
                    have hud : undef = Value.tuple #[] := rfl
                    go_wp2_with fail
                    go_quiet (fail)
                    go_wp2_with fail
                    clear hud
                    rw [show (Value.tuple #[] : Value) = undef from rfl]
                    go_meet
                    have h9 := HSB.out.upd (w' := (wP.alloc (.cells #[.int .u8 q.1, .int .u16 q.2] 69)).drewN nq) (HOP.out.trans (one_of_below (bdrewN (Below.refl _ _) nq) (some gs))) k none none (HNP.out.of_block rfl) hk rfl (fun b h => by cases h)
                    exact ⟨_, _, h9⟩
                  | false =>
                    have HNO := Lib.hid (hasB_no (HHB.out.symm))
                    go_wp2_with fail
                    refine (setCut_no HSB.out.ns y HNO.out).mono ?_
                    rintro e wP ⟨rfl, hbP⟩
                    have HSP := Lib.hid (HSB.out.keep (bnewAfter hbP (.cells #[.int .u8 0, .int .u16 0] 69)))
                    clear hbP
                    have hud : undef = Value.tuple #[] := rfl
                    go_wp2_with fail
                    go_quiet (fail)
                    go_wp2_with fail
                    clear hud
                    rw [show (Value.tuple #[] : Value) = undef from rfl]
                    go_meet
                    exact ⟨M, mp, HSP.out.keep (bdrewN (Below.refl _ _) _)⟩
              · as_aux_lemma =>
                  have b0 : ((kd : Int) % 5 == 0) = false := by rw [h5]; rfl
                  have b1 : ((kd : Int) % 5 == 1) = false := by rw [h5]; rfl
                  have b2 : ((kd : Int) % 5 == 2) = false := by rw [h5]; rfl
                  have b3 : ((kd : Int) % 5 == 3) = true := by rw [h5]; rfl
                  clear h5
                  cases hb with
                  | true =>
                    obtain ⟨k, q, b, rfl, hk, hMk, hmk, hq1, hq2, hbk⟩ := hasB_yes HSB.out (HHB.out.symm)
                    have HMK := Lib.hid hMk
                    have HMP := Lib.hid hmk
                    have HBK := Lib.hid hbk
                    have HNB := Lib.hid (HSB.out.ne_id hbk)
                    clear hMk hmk hbk
                    have eqq : ∀ w : World, (Op.equalIn 10000 69 (.agg #[.int .u8 q.1, .int .u16 q.2]) (.agg #[.int .u8 q.1, .int .u16 q.2])).run Try.prog w = .ok true w := fun w => by have := eqId q q hq1 hq2 hq1 hq2 w; rwa [decide_eq_true rfl] at this
                    have f3 : (k : Int) < 8 := by omega
                    go_wp2_with fail
                    refine (setTurn_yes HSB.out.ns k hk (lab, i) q HMK.out).mono ?_
                    rintro e wP ⟨rfl, hnP, hoP⟩
                    have HNP := Lib.hid hnP
                    have HOP := Lib.hid hoP
                    have hpp : wP.rowIs gp 125 8 (ptrF mp) := HSB.out.pr.of_block (hoP.block gp HSB.out.pr.lt (fun e => HSB.out.ne (by cases e; rfl)))
                    have cp := hpp.cell (i := k) hk
                    have cf := hpp.frozen
                    clear hnP hoP hpp
                    have hud : undef = Value.tuple #[] := rfl
                    go_wp2_with fail
                    clear hud
                    rw [show (Value.tuple #[] : Value) = undef from rfl]
                    go_meet
                    exact ⟨_, _, HSB.out.upd HOP.out k (some (lab, i)) (some N2) HNP.out hk rfl (fun b hb => by cases hb; exact ⟨(lab, i), rfl, k2, by show i ≤ 65535; omega, HOP.out.blk HB.out (fun e => (HSB.out.ne_id HB.out).1 (by cases e; rfl))⟩)⟩
                  | false =>
                    have HNO := Lib.hid (hasB_no (HHB.out.symm))
                    go_wp2_with fail
                    refine (setTurn_no HSB.out.ns y (lab, i) HNO.out).mono ?_
                    rintro e wP ⟨rfl, hbP⟩
                    have HSP := Lib.hid (HSB.out.keep hbP)
                    clear hbP
                    have hud : undef = Value.tuple #[] := rfl
                    go_wp2_with fail
                    clear hud
                    rw [show (Value.tuple #[] : Value) = undef from rfl]
                    go_meet
                    exact ⟨M, mp, HSP.out⟩
              · as_aux_lemma =>
                  have b0 : ((kd : Int) % 5 == 0) = false := by rw [h5]; rfl
                  have b1 : ((kd : Int) % 5 == 1) = false := by rw [h5]; rfl
                  have b2 : ((kd : Int) % 5 == 2) = false := by rw [h5]; rfl
                  have b3 : ((kd : Int) % 5 == 3) = false := by rw [h5]; rfl
                  clear h5
                  cases hb with
                  | true =>
                    obtain ⟨k, q, b, rfl, hk, hMk, hmk, hq1, hq2, hbk⟩ := hasB_yes HSB.out (HHB.out.symm)
                    have HMK := Lib.hid hMk
                    have HMP := Lib.hid hmk
                    have HBK := Lib.hid hbk
                    have HNB := Lib.hid (HSB.out.ne_id hbk)
                    clear hMk hmk hbk
                    have eqq : ∀ w : World, (Op.equalIn 10000 69 (.agg #[.int .u8 q.1, .int .u16 q.2]) (.agg #[.int .u8 q.1, .int .u16 q.2])).run Try.prog w = .ok true w := fun w => by have := eqId q q hq1 hq2 hq1 hq2 w; rwa [decide_eq_true rfl] at this
                    have f3 : (k : Int) < 8 := by omega
                    go_wp2_with fail
                    refine (setGet_yes HSB.out.ns k hk q HMK.out).mono ?_
                    rintro e wP ⟨rfl, hbP⟩
                    have hbQ := bnewAfter hbP (.cells #[.int .u8 q.1, .int .u16 q.2] 69)
                    have hq := heap_alloc_last wP (.cells #[.int .u8 q.1, .int .u16 q.2] 69)
                    have HSP := Lib.hid (HSB.out.keep hbQ)
                    have cq := rowcell hq
                    have cp := HSP.out.ptr hk
                    rw [HMP.out] at cp
                    have cb := rowcell (bkeep hbQ HBK.out)
                    clear hbP hbQ hq
                    have hud : undef = Value.tuple #[] := rfl
                    go_wp2_with fail
                    go_quiet (fail)
                    go_wp2_with fail
                    clear hud
                    rw [show (Value.tuple #[] : Value) = undef from rfl]
                    go_meet
                    exact ⟨M, mp, HSP.out.keep (bdrewN (Below.refl _ _) _)⟩
                  | false =>
                    have HNO := Lib.hid (hasB_no (HHB.out.symm))
                    have eqq : ∀ w : World, (Op.equalIn 10000 69 (.agg #[.int .u8 0, .int .u16 0]) (.agg #[.int .u8 0, .int .u16 0])).run Try.prog w = .ok true w := fun w => by have := eqId (0, 0) (0, 0) (by omega) (by omega) (by omega) (by omega) w; rwa [decide_eq_true rfl] at this
                    go_wp2_with fail
                    refine (setGet_no HSB.out.ns y HNO.out).mono ?_
                    rintro e wP ⟨rfl, hbP⟩
                    have hq := heap_alloc_last wP (.cells #[.int .u8 0, .int .u16 0] 69)
                    have HSP := Lib.hid (HSB.out.keep (bnewAfter hbP (.cells #[.int .u8 0, .int .u16 0] 69)))
                    have cq := rowcell hq
                    clear hbP hq
                    have hud : undef = Value.tuple #[] := rfl
                    go_wp2_with fail
                    go_quiet (fail)
                    go_wp2_with fail
                    clear hud
                    rw [show (Value.tuple #[] : Value) = undef from rfl]
                    go_meet
                    exact ⟨M, mp, HSP.out.keep (bdrewN (Below.refl _ _) _)⟩
            case rest =>
              as_aux_lemma =>
                obtain ⟨M', mp', hss⟩ := hcut
                have HS2 := Lib.hid hss
                clear hss c0 cB
                go_at_K
                go_step
                go_wp2_with fail
                obtain ⟨wo, hwo⟩ : ∃ wo, wo = wc := ⟨_, rfl⟩
                subst hwo
                go_loopw [19, 184] (fun u r wx => ∃ x : Nat, x ≤ 8 ∧ r = .int .i64 x ∧ Below wo.heap.size wo wx ∧ wx.ownsRow wo.heap.size 3 1 u (numsTo M' x).length (intVs (numsTo M' x))) (fun _ r _ => 8 - (intOf r).toNat)
                case atStart => exact ⟨0, by omega, rfl, Below.refl _ _, ⟨rfl, .inl ⟨rfl, rfl⟩⟩⟩
                case round =>
                  obtain ⟨x, hx, rfl, hbx, hox⟩ := hrel
                  have HBX := Lib.hid hbx
                  have HOX := Lib.hid hox
                  have hsl := numsTo_len M' x
                  clear hbx hox
                  by_cases hx8 : x < 8
                  · have f1 : (x : Int) < 8 := by omega
                    have cp := (HS2.out.keep HBX.out).ptr hx8
                    have he := HS2.out.eq x
                    have hnx := numsTo_next M' x
                    cases hm : mp' x with
                    | none =>
                      rw [hm] at cp he
                      rw [← he] at hnx
                      have HNX := Lib.hid (show numsTo M' (x + 1) = numsTo M' x by rw [hnx]; simp)
                      clear hm he hnx
                      go_wp2_with fail
                      go_roundw
                      case rel => exact ⟨x + 1, by omega, by go_num, HBX.out, by rw [HNX.out]; exact HOX.out⟩
                      case measure => simp [intOf]; omega
                    | some b =>
                      rw [hm] at cp he
                      rw [← he] at hnx
                      have HNX := Lib.hid (show numsTo M' (x + 1) = numsTo M' x ++ [x] by rw [hnx]; simp)
                      clear hm he hnx
                      go_wp2_with (with_reducible refine wpList_stop (some 194) rfl ?_)
                      refine Lib.hid ?_
                      have hbi5 := bnew wr (.cells #[.int .i64 x] 3)
                      have hM5 := own_below HOX.out hbi5
                      have hl5 := heap_alloc_last wr (.cells #[.int .i64 x] 3)
                      have hw5 := bnext HBX.out hbi5
                      obtain ⟨A5, c5, hA5⟩ := own_form HOX.out
                      subst hA5
                      refine wpList_append_sr rfl (.tmp 191) (.tmp 193) 53 rfl (some 194) rfl wo.heap.size 3 (.int .i64 0) 1 8 Try.underlying53 (by kernel_rfl) rfl (by decide) (.slice A5 (numsTo M' x).length c5) (.slice (some ⟨wr.heap.size, 0, none⟩) 1 1) (numsTo M' x).length 1 (intVs (numsTo M' x)) _ rfl hM5 rfl (SR.lit hl5 rfl) (List.all_eq_true.1 (by rfl)) (by unfold maxLen; omega) (by omega) hw5.size ?_
                      intro v8 w8 hown8 hgr8 hloc8
                      have o8 := one_of_grown hgr8
                      have hb8 := hw5.trans (o8.toBelow (fun j hj => by have := (own_blk hM5 hj).1; omega) hw5.size)
                      have HB8 := Lib.hid hb8
                      have HO8 := Lib.hid hown8
                      clear hown8 hgr8 hloc8 o8 hM5 hl5 hw5 hbi5 hb8
                      go_wp2_with fail
                      go_roundw
                      case rel => exact ⟨x + 1, by omega, by go_num, HB8.out, by rw [HNX.out]; simpa [intVs] using HO8.out⟩
                      case measure => simp [intOf]; omega
                  · obtain rfl : x = 8 := by omega
                    have f1 : ¬ (((8 : Nat) : Int) < 8) := by omega
                    go_wp2_with fail
                    have HSX := Lib.hid (HS2.out.keep HBX.out)
                    refine (setNumbers_in HSX.out.ns).mono ?_
                    rintro e wn ⟨hbn, vn, rfl, hon⟩
                    obtain ⟨An, cn, rfl⟩ := own_form hon
                    obtain ⟨Ax, cx, rfl⟩ := own_form HOX.out
                    have HI1 := Lib.hid (intVs_si (SR.of_own hon) (numsTo_lt M' 8))
                    have HI2 := Lib.hid (intVs_si ((SR.of_own HOX.out).keep hbn) (numsTo_lt M' 8))
                    have HSN := Lib.hid (HSX.out.keep hbn)
                    have HLEN := Lib.hid (show ((numsTo M' 8).map fun (x : Nat) => (x : Int)).length ≤ 1000 by simp; omega)
                    clear hbn hon
                    obtain ⟨q, hq⟩ : ∃ q, q = (numsTo M' 8).length := ⟨_, rfl⟩
                    rw [← hq] at HI1 HI2 hsl ⊢
                    have HQ := Lib.hid hq
                    clear hq
                    go_wp2_with fail
                    refine (sameInts_any _ _ _ _ HI1.out HI2.out HLEN.out).mono ?_
                    rintro e ws ⟨rfl, hbs⟩
                    have HSS' := Lib.hid (HSN.out.keep hbs)
                    clear hbs
                    go_wp2_with fail
                    refine (setRoom_in HSS'.out.ns).mono ?_
                    rintro e wz ⟨rfl, hbz⟩
                    rw [← HQ.out]
                    have HSZ := Lib.hid (HSS'.out.keep hbz)
                    clear hbz
                    have f2 : IntKind.i64.wrap (8 - (q : Int)) = 8 - (q : Int) := by rw [IntKind.wrap_i64]; omega
                    go_wp2_with fail
                    go_roundw
                    case rel => exact ⟨i + 1, M', mp', by omega, by go_num, HSZ.out⟩
                    case measure => simp [intOf]; omega
    · have hlti : ¬ ((i : Int) < n) := by omega
      go_wp2_with fail
      go_ret
      exact ⟨rfl, HSR.out.bl⟩
end Go.Proofs.Ytfnkbgcgajgppaa
