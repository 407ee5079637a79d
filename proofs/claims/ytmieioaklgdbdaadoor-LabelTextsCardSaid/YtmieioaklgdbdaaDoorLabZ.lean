/- Labels as texts: the walk of LabelTexts. -/
import Derived.Test.YtmieioaklgdbdaaDoorLabY
set_option linter.unusedVariables false
set_option linter.unusedSimpArgs false
namespace Go.Proofs.YtmieioaklgdbdaaDoor
open Go.RowKit

theorem mkR_ok (lv : Nat) (cs : List Nat) : okL (mkR lv cs).1 := by
  unfold mkR
  split
  · next h =>
    refine ⟨by show lv ≤ 255; omega, ?_⟩
    show orAll (intsI cs) < 65536
    refine orAll_lt _ 0 (by omega) ?_
    intro z hz
    obtain ⟨c, hc, rfl⟩ := List.mem_map.mp hz
    have := h.2 c hc
    unfold catOk
    omega
  · exact ⟨by show 0 ≤ 255; omega, by show 0 < 65536; omega⟩
theorem badR_ok : okL badR.1 := ⟨by show 0 ≤ 255; omega, by show 0 < 65536; omega⟩
theorem parseR_ok (l : List UInt8) : okL (parseR l).1 := by
  unfold parseR
  split
  · exact badR_ok
  · next lv r _ =>
    cases r with
    | nil => exact mkR_ok _ _
    | cons b u =>
      rw [restR]
      split
      · split
        · exact badR_ok
        · exact mkR_ok _ _
      · exact badR_ok
theorem keyLits_lab (p : Nat × Nat) (hp : okL p) : Tryd.prog.keyLits 2 24 [.int .u8 p.1, .int .u16 p.2] = some [.int .u8 p.1, .int .u16 p.2] := by
  have h2 := hp.2
  have h1 := hp.1
  have e8 : Tryd.prog.keyLits 1 5 [.int .u8 (p.1 : Int)] = some [.int .u8 p.1] := by simp [Program.keyLits, Tryd.underlying5, u8_wf (show 0 ≤ (p.1 : Int) ∧ (p.1 : Int) ≤ 255 by omega)]
  have e16 : Tryd.prog.keyLits 1 22 [.int .u16 (p.2 : Int)] = some [.int .u16 p.2] := by simp [Program.keyLits, Tryd.underlying22, u16_wf (show 0 ≤ (p.2 : Int) ∧ (p.2 : Int) ≤ 65535 by omega)]
  have z1 : Tryd.prog.cellsOf 24 = 2 := by kernel_rfl
  have z2 : Tryd.prog.cellsOf 5 = 1 := by kernel_rfl
  have z3 : Tryd.prog.cellsOf 22 = 1 := by kernel_rfl
  unfold Program.keyLits
  simp [Tryd.underlying24, z1, z2, z3, e8, e16]
theorem formed_lab (p : Nat × Nat) : (Value.agg #[.int .u8 (p.1 : Int), .int .u16 (p.2 : Int)]).formed Tryd.prog 24 = true := by
  have z1 : Tryd.prog.cellsOf 24 = 2 := by kernel_rfl
  simp [Value.formed, Tryd.underlying24, z1]
/-- '==' on labels. -/
theorem eqLab (p q : Nat × Nat) (hp : okL p) (hq : okL q) (w : World) :
    (Op.equalIn 10000 24 (.agg #[.int .u8 p.1, .int .u16 p.2]) (.agg #[.int .u8 q.1, .int .u16 q.2])).run Tryd.prog w = .ok (decide (p = q)) w :=
  equal_key 2 (by omega) (by kernel_rfl) (formed_lab p) (formed_lab q) (keyLits_lab p hp) (keyLits_lab q hq) (by
    obtain ⟨a, b⟩ := p
    obtain ⟨c, d⟩ := q
    simp
    omega)
theorem eqLab_same (p : Nat × Nat) (hp : okL p) (w : World) :
    (Op.equalIn 10000 24 (.agg #[.int .u8 p.1, .int .u16 p.2]) (.agg #[.int .u8 p.1, .int .u16 p.2])).run Tryd.prog w = .ok true w := by
  have := eqLab p p hp hp w
  rwa [decide_eq_true rfl] at this

theorem textL_len (p : Nat × Nat) (hp : okL p) : (textL p).length ≤ 1000 := by
  have h1 := hp.1
  have h2 := digL_len p.1
  have h3 := catsText_len true (catsL p.2) (catsL_lt p.2)
  have h4 : (catsL p.2).length ≤ 16 := Nat.le_trans (List.length_filter_le _ _) (by simp)
  unfold textL
  rw [List.length_append]
  omega

set_option maxRecDepth 100000 in
set_option maxHeartbeats 8000000 in
theorem labelTexts_walk (W : World) (hT : Tab W) (v0 v1 : Value) (o0 : Arg Tryd.prog W 9 v0) (o1 : Arg Tryd.prog W 24 v1) :
    Calls Tryd.prog 3 #[v0, v1] W fun e w' => e = .returned (.bool true) ∧ Below W.heap.size W w' := by
  obtain ⟨s, rfl, hsm⟩ := Arg.string Tryd.underlying9 o0
  obtain ⟨p, rfl, hp⟩ := lab_of_arg ⟨_, Tryd.underlying24⟩ (by kernel_rfl) o1
  clear o0 o1
  have HSL := Lib.hid (show (Value.string s) = strV s.toList from by unfold strV; congr 1; rw [Lib.toList_data])
  have hp1 := hp.1
  have hB0 := bnew W (.cells #[.int .u8 p.1, .int .u16 p.2] 24)
  have hob0 := heap_alloc_last W (.cells #[.int .u8 p.1, .int .u16 p.2] 24)
  unfold labV
  by_cases hbig : 200 < (s.size : Int)
  · go_enter Tryd.func3, Tryd.ntmps3
    go_wp2_with (go_at_call 4; refine (labAwake_any _ (hT.keep hB0)).mono ?_; rintro e w1 ⟨he, hb⟩; subst he)
    go_ret
    exact ⟨rfl, bnext hB0 hb⟩
  have hlen : (s.size : Int) ≤ 200 := by omega
  have hlen' : s.size ≤ 200 := by omega
  have hll : s.toList.length ≤ 1000 := by rw [Lib.toList_data, ← Lib.size_eq]; omega
  obtain ⟨q, hq⟩ : ∃ q, q = parseR s.toList := ⟨_, rfl⟩
  have hqok : okL q.1 := by rw [hq]; exact parseR_ok _
  have HP1 : Hid (∀ w, Calls Tryd.prog 5 #[.string s] w fun e w' => e = .returned (.tuple #[.agg #[.int .u8 q.1.1, .int .u16 q.1.2], .int .i64 q.2]) ∧ Below w.heap.size w w') := Lib.hid (fun w => by rw [HSL.out, hq]; exact labParse_any _ hll w)
  have HP2 : Hid (∀ w, Calls Tryd.prog 6 #[.string s] w fun e w' => e = .returned (.tuple #[.agg #[.int .u8 q.1.1, .int .u16 q.1.2], .int .i64 q.2]) ∧ Below w.heap.size w w') := Lib.hid (fun w => by rw [HSL.out, hq]; exact refParse_any _ hll w)
  clear hq HSL
  obtain ⟨⟨x, xc⟩, c⟩ := q
  obtain ⟨sT, hsT⟩ : ∃ sT : ByteArray, sT = ⟨(textL p).toArray⟩ := ⟨_, rfl⟩
  have HT1 : Hid (∀ w, Tab w → Calls Tryd.prog 7 #[.agg #[.int .u8 p.1, .int .u16 p.2]] w fun e w' => e = .returned (.string sT) ∧ Below w.heap.size w w') := Lib.hid (fun w h => by rw [hsT]; exact labText_any p hp w h)
  have HT2 : Hid (∀ w, Calls Tryd.prog 8 #[.agg #[.int .u8 p.1, .int .u16 p.2]] w fun e w' => e = .returned (.string sT) ∧ Below w.heap.size w w') := Lib.hid (fun w => by rw [hsT]; exact refText_any p hp w)
  have HZ : Hid (∀ w, Calls Tryd.prog 5 #[.string sT] w fun e w' => e = .returned (retR (wantR p)) ∧ Below w.heap.size w w') := Lib.hid (fun w => by rw [hsT, ← parse_text p hp]; exact labParse_any _ (textL_len p hp) w)
  clear hsT
  have HTW := Lib.hid hT
  have HPK := Lib.hid hp
  have HQK := Lib.hid hqok
  obtain ⟨P, PC⟩ := p
  go_enter Tryd.func3, Tryd.ntmps3
  go_wp2_with fail
  go_at_call 4; refine (labAwake_any _ (HTW.out.keep hB0)).mono ?_; rintro e w1 ⟨he, hb1⟩; subst he
  have hB1 := bnext hB0 hb1
  have hob1 := bkeep hb1 hob0
  clear hob0
  have HB1 := Lib.hid hB1
  have HOB1 := Lib.hid hob1
  clear hB0 hb1 hB1 hob1
  go_wp2_with fail
  refine (HP1.out _).mono ?_
  rintro e w2 ⟨he, hb2⟩; subst he
  have hB2 := bnext HB1.out hb2
  have hob2 := bkeep hb2 HOB1.out
  clear hb2
  go_upto_region 6 with fail
  have hB3 := bnewAfter hB2 (.cells #[.int .u8 x, .int .u16 xc] 24)
  have hob3 := bkeep (bnew w2 (.cells #[.int .u8 x, .int .u16 xc] 24)) hob2
  have hoc3 := heap_alloc_last w2 (.cells #[.int .u8 x, .int .u16 xc] 24)
  clear hob2 hB2
  generalize w2.alloc (.cells #[.int .u8 x, .int .u16 xc] 24) = w3 at *
  generalize w2.heap.size = gx at *
  have HB3 := Lib.hid hB3
  have HOB3 := Lib.hid hob3
  have HOC3 := Lib.hid hoc3
  clear hB3 hob3 hoc3
  go_wp2_with fail
  refine (HP2.out _).mono ?_
  rintro e w4 ⟨he, hb4⟩; subst he
  have hB4 := bnext HB3.out hb4
  have hob4 := bkeep hb4 HOB3.out
  have hoc4 := bkeep hb4 HOC3.out
  clear hb4
  go_upto_region 7 with fail
  have hB5 := bnewAfter hB4 (.cells #[.int .u8 x, .int .u16 xc] 24)
  have hob5 := bkeep (bnew w4 (.cells #[.int .u8 x, .int .u16 xc] 24)) hob4
  have hoc5 := bkeep (bnew w4 (.cells #[.int .u8 x, .int .u16 xc] 24)) hoc4
  have hod5 := heap_alloc_last w4 (.cells #[.int .u8 x, .int .u16 xc] 24)
  clear hob4 hoc4 hB4
  generalize w4.alloc (.cells #[.int .u8 x, .int .u16 xc] 24) = w5 at *
  generalize w4.heap.size = gy at *
  have HB5 := Lib.hid hB5
  have HOB5 := Lib.hid hob5
  have HOC5 := Lib.hid hoc5
  have HOD5 := Lib.hid hod5
  have hx5 := rowcell hob5
  clear hB5 hob5 hoc5 hod5
  go_wp2_with fail
  refine (HT1.out _ (HTW.out.keep HB5.out)).mono ?_
  rintro e w6 ⟨he, hb6⟩; subst he
  have HB6 := Lib.hid (bnext HB5.out hb6)
  have HOB6 := Lib.hid (bkeep hb6 HOB5.out)
  have HOC6 := Lib.hid (bkeep hb6 HOC5.out)
  have HOD6 := Lib.hid (bkeep hb6 HOD5.out)
  clear hb6 hx5
  go_wp2_with fail
  refine (HZ.out _).mono ?_
  rintro e w7 ⟨he, hb7⟩; subst he
  have hB7 := bnext HB6.out hb7
  have hob7 := bkeep hb7 HOB6.out
  have hoc7 := bkeep hb7 HOC6.out
  have hod7 := bkeep hb7 HOD6.out
  clear hb7
  unfold wantR
  clear hp hqok hT
  by_cases h99 : 99 < P
  ·
    have g1 : (99 : Int) < P := by omega
    rw [if_pos h99]
    unfold retR badR labV
    go_upto_region 8 with fail
    have hB8 := bnewAfter hB7 (.cells #[.int .u8 0, .int .u16 0] 24)
    have hob8 := bkeep (bnew w7 (.cells #[.int .u8 0, .int .u16 0] 24)) hob7
    have hoc8 := bkeep (bnew w7 (.cells #[.int .u8 0, .int .u16 0] 24)) hoc7
    have hod8 := bkeep (bnew w7 (.cells #[.int .u8 0, .int .u16 0] 24)) hod7
    have hoe8 := heap_alloc_last w7 (.cells #[.int .u8 0, .int .u16 0] 24)
    clear hob7 hoc7 hod7 hB7
    generalize w7.alloc (.cells #[.int .u8 0, .int .u16 0] 24) = w8 at *
    generalize w7.heap.size = gz at *
    have HB8 := Lib.hid hB8
    have HOB8 := Lib.hid hob8
    have HOC8 := Lib.hid hoc8
    have HOD8 := Lib.hid hod8
    have HOE8 := Lib.hid hoe8
    have hx8 := rowcell hob8
    clear hB8 hob8 hoc8 hod8 hoe8
    go_upto_region 13 with fail
    clear hx8
    have HBD : Hid (Below W.heap.size W w8.drew) := Lib.hid (bdrewN HB8.out 1)
    have hSd : Below w8.heap.size w8.drew w8.drew := Below.refl _ _
    have hq3 : ∀ w', Below w8.heap.size w8.drew w' → ∀ o, w'.cell? ⟨W.heap.size, o, none⟩ = (#[.int .u8 P, .int .u16 PC] : Array Value)[o]? := fun w' hb => rowcell (bkeep (w := w') (W := w8.drew) hb HOB8.out)
    have hq5 : ∀ w', Below w8.heap.size w8.drew w' → ∀ o, w'.cell? ⟨gx, o, none⟩ = (#[.int .u8 x, .int .u16 xc] : Array Value)[o]? := fun w' hb => rowcell (bkeep (w := w') (W := w8.drew) hb HOC8.out)
    have hq7 : ∀ w', Below w8.heap.size w8.drew w' → ∀ o, w'.cell? ⟨gy, o, none⟩ = (#[.int .u8 x, .int .u16 xc] : Array Value)[o]? := fun w' hb => rowcell (bkeep (w := w') (W := w8.drew) hb HOD8.out)
    have hq9 : ∀ w', Below w8.heap.size w8.drew w' → ∀ o, w'.cell? ⟨gz, o, none⟩ = (#[.int .u8 0, .int .u16 0] : Array Value)[o]? := fun w' hb => rowcell (bkeep (w := w') (W := w8.drew) hb HOE8.out)
    have HW := Lib.hid (show W.heap.size ≤ w8.heap.size from HB8.out.size)
    refine wp_region_held (S := fun w' => Below w8.heap.size w8.drew w') (by kernel_rfl) ?_
    change wpAnyH _ _ _ _ _ _ _ _ (World.drew _)
    refine takeH 0 (.agg #[.int .u8 x, .int .u16 xc]) (some 39) rfl rfl (by kernel_rfl) (by kernel_rfl) (by kernel_rfl) (fun _ _ _ h => h) (.inl ⟨by kernel_rfl, fun w hw => by have hc := hq5 w hw; go_simp⟩) hSd ?_
    refine takeH 1 (.agg #[.int .u8 x, .int .u16 xc]) (some 40) rfl rfl (by kernel_rfl) (by kernel_rfl) (by kernel_rfl) (fun _ _ _ h => h) (.inl ⟨by kernel_rfl, fun w hw => by have hc := hq7 w hw; go_simp⟩) hSd ?_
    refine takeH 2 (.bool true) (some 41) rfl rfl (by kernel_rfl) (by kernel_rfl) (by kernel_rfl) (fun _ _ _ h => h) (.inl ⟨by kernel_rfl, fun w _ => exec_eql (xs := #[.int .u8 x, .int .u16 xc]) (ys := #[.int .u8 x, .int .u16 xc]) rfl (by go_simp) (by go_simp) (by kernel_rfl) (eqLab_same (x, xc) HQK.out w)⟩) hSd ?_
    go_simp
    refine takeH 3 (.bool true) (some 42) rfl rfl (by kernel_rfl) (by kernel_rfl) (by kernel_rfl) (fun _ _ _ h => h) (.inl ⟨by kernel_rfl, fun w _ => by go_simp⟩) hSd ?_
    refine takeH 4 (.int .i64 c) (some 43) rfl rfl (by kernel_rfl) (by kernel_rfl) (by kernel_rfl) (fun _ _ _ h => h) (.inl ⟨by kernel_rfl, fun w _ => by go_simp⟩) hSd ?_
    refine takeH 5 (.int .i64 c) (some 44) rfl rfl (by kernel_rfl) (by kernel_rfl) (by kernel_rfl) (fun _ _ _ h => h) (.inl ⟨by kernel_rfl, fun w _ => by go_simp⟩) hSd ?_
    go_simp
    refine takeH 6 (.bool true) (some 45) rfl rfl (by kernel_rfl) (by kernel_rfl) (by kernel_rfl) (fun _ _ _ h => h) (.inl ⟨by kernel_rfl, fun w _ => by go_simp⟩) hSd ?_
    refine takeH 7 (.bool true) (some 46) rfl rfl (by kernel_rfl) (by kernel_rfl) (by kernel_rfl) (fun _ _ _ h => h) (.inl ⟨by kernel_rfl, fun w _ => by go_simp⟩) hSd ?_
    refine takeH 8 (.bool true) (some 47) rfl rfl (by kernel_rfl) (by kernel_rfl) (by kernel_rfl) (fun _ _ _ h => h) (.inl ⟨by kernel_rfl, fun w _ => by go_simp⟩) hSd ?_
    go_simp
    refine takeH 9 (.agg #[.int .u8 P, .int .u16 PC]) (some 48) rfl rfl (by kernel_rfl) (by kernel_rfl) (by kernel_rfl) (fun _ _ _ h => h) (.inl ⟨by kernel_rfl, fun w hw => by have hc := hq3 w hw; go_simp⟩) hSd ?_
    refine takeH 11 (.agg #[.int .u8 P, .int .u16 PC]) (some 50) rfl rfl (by kernel_rfl) (by kernel_rfl) (by kernel_rfl) (fun _ _ _ h => h) (.inl ⟨by kernel_rfl, fun w hw => by have hc := hq3 w hw; go_simp⟩) hSd ?_
    go_simp
    refine callH 10 rfl (by kernel_rfl) (by kernel_rfl) (some 49) rfl 7 #[.agg #[.int .u8 P, .int .u16 PC]] ?hrun ((HT1.out _ (HTW.out.keep (HBD.out.trans (hSd.mono HW.out)))).mono ?_)
    case hrun => go_simp
    rintro e w9 ⟨he, hb9⟩
    have hS9 : Below w8.heap.size w8.drew w9 := hSd.trans (hb9.mono hSd.size)
    refine ⟨_, he, hS9, ?_⟩
    go_simp
    refine callH 12 rfl (by kernel_rfl) (by kernel_rfl) (some 51) rfl 8 #[.agg #[.int .u8 P, .int .u16 PC]] ?hrun ((HT2.out _).mono ?_)
    case hrun => go_simp
    rintro e w10 ⟨he, hb10⟩
    have hS10 : Below w8.heap.size w8.drew w10 := hS9.trans (hb10.mono hS9.size)
    refine ⟨_, he, hS10, ?_⟩
    go_simp
    refine takeH 13 (.bool true) (some 52) rfl rfl (by kernel_rfl) (by kernel_rfl) (by kernel_rfl) (fun _ _ _ h => h) (.inl ⟨by kernel_rfl, fun w _ => by go_simp⟩) hS10 ?_
    refine takeH 14 (.bool true) (some 53) rfl rfl (by kernel_rfl) (by kernel_rfl) (by kernel_rfl) (fun _ _ _ h => h) (.inl ⟨by kernel_rfl, fun w _ => by go_simp⟩) hS10 ?_
    refine takeH 15 (.bool true) (some 54) rfl rfl (by kernel_rfl) (by kernel_rfl) (by kernel_rfl) (fun _ _ _ h => h) (.inl ⟨by kernel_rfl, fun w _ => by go_simp⟩) hS10 ?_
    go_simp
    refine takeH 16 (.int .i64 28) (some 55) rfl rfl (by kernel_rfl) (by kernel_rfl) (by kernel_rfl) (fun _ _ _ h => h) (.inl ⟨by kernel_rfl, fun w _ => by go_simp⟩) hS10 ?_
    refine takeH 17 (.int .i64 28) (some 56) rfl rfl (by kernel_rfl) (by kernel_rfl) (by kernel_rfl) (fun _ _ _ h => h) (.inl ⟨by kernel_rfl, fun w _ => by go_simp⟩) hS10 ?_
    refine takeH 18 (.bool true) (some 57) rfl rfl (by kernel_rfl) (by kernel_rfl) (by kernel_rfl) (fun _ _ _ h => h) (.inl ⟨by kernel_rfl, fun w _ => by go_simp⟩) hS10 ?_
    go_simp
    refine takeH 19 (.bool true) (some 58) rfl rfl (by kernel_rfl) (by kernel_rfl) (by kernel_rfl) (fun _ _ _ h => h) (.inl ⟨by kernel_rfl, fun w _ => by go_simp⟩) hS10 ?_
    refine takeH 20 (.bool true) (some 59) rfl rfl (by kernel_rfl) (by kernel_rfl) (by kernel_rfl) (fun _ _ _ h => h) (.inl ⟨by kernel_rfl, fun w _ => by go_simp⟩) hS10 ?_
    refine takeH 21 (.int .i64 28) (some 60) rfl rfl (by kernel_rfl) (by kernel_rfl) (by kernel_rfl) (fun _ _ _ h => h) (.inl ⟨by kernel_rfl, fun w _ => by go_simp⟩) hS10 ?_
    go_simp
    refine takeH 22 (.bool true) (some 61) rfl rfl (by kernel_rfl) (by kernel_rfl) (by kernel_rfl) (fun _ _ _ h => h) (.inl ⟨by kernel_rfl, fun w _ => by go_simp⟩) hS10 ?_
    refine takeH 23 (.bool true) (some 62) rfl rfl (by kernel_rfl) (by kernel_rfl) (by kernel_rfl) (fun _ _ _ h => h) (.inl ⟨by kernel_rfl, fun w _ => by go_simp⟩) hS10 ?_
    go_simp
    refine takeH 24 (undef) (some 63) rfl rfl (by kernel_rfl) (by kernel_rfl) (by kernel_rfl) (fun _ _ _ h => h) (.inr ⟨by kernel_rfl, rfl⟩) hS10 ?_
    refine takeH 25 (undef) (some 64) rfl rfl (by kernel_rfl) (by kernel_rfl) (by kernel_rfl) (fun _ _ _ h => h) (.inr ⟨by kernel_rfl, rfl⟩) hS10 ?_
    refine takeH 26 (undef) (some 65) rfl rfl (by kernel_rfl) (by kernel_rfl) (by kernel_rfl) (fun _ _ _ h => h) (.inr ⟨by kernel_rfl, rfl⟩) hS10 ?_
    go_simp
    refine takeH 27 (.bool true) (some 66) rfl rfl (by kernel_rfl) (by kernel_rfl) (by kernel_rfl) (fun _ _ _ h => h) (.inl ⟨by kernel_rfl, fun w _ => by go_simp⟩) hS10 ?_
    refine takeH 28 (.bool true) (some 67) rfl rfl (by kernel_rfl) (by kernel_rfl) (by kernel_rfl) (fun _ _ _ h => h) (.inl ⟨by kernel_rfl, fun w _ => by go_simp⟩) hS10 ?_
    refine takeH 29 (.bool true) (some 4) rfl rfl (by kernel_rfl) (by kernel_rfl) (by kernel_rfl) (fun _ _ _ h => h) (.inl ⟨by kernel_rfl, fun w _ => by go_simp⟩) hS10 ?_
    refine wpAnyH_done (by kernel_rfl) ?_ _
    go_simp
    go_wp2_with fail
    go_ret
    exact ⟨rfl, HBD.out.trans (hS10.mono HW.out)⟩
  · by_cases h15 : 15 < P
    ·
      have g1 : decide ((99 : Int) < P) = false := by rw [decide_eq_false_iff_not]; omega
      have g1n : decide (99 < P) = false := by rw [decide_eq_false_iff_not]; omega
      have g2 : (15 : Int) < P := by omega
      rw [if_neg h99, if_pos h15]
      unfold retR labV
      go_upto_region 8 with fail
      have hB8 := bnewAfter hB7 (.cells #[.int .u8 0, .int .u16 0] 24)
      have hob8 := bkeep (bnew w7 (.cells #[.int .u8 0, .int .u16 0] 24)) hob7
      have hoc8 := bkeep (bnew w7 (.cells #[.int .u8 0, .int .u16 0] 24)) hoc7
      have hod8 := bkeep (bnew w7 (.cells #[.int .u8 0, .int .u16 0] 24)) hod7
      have hoe8 := heap_alloc_last w7 (.cells #[.int .u8 0, .int .u16 0] 24)
      clear hob7 hoc7 hod7 hB7
      generalize w7.alloc (.cells #[.int .u8 0, .int .u16 0] 24) = w8 at *
      generalize w7.heap.size = gz at *
      have HB8 := Lib.hid hB8
      have HOB8 := Lib.hid hob8
      have HOC8 := Lib.hid hoc8
      have HOD8 := Lib.hid hod8
      have HOE8 := Lib.hid hoe8
      have hx8 := rowcell hob8
      clear hB8 hob8 hoc8 hod8 hoe8
      go_upto_region 13 with fail
      clear hx8
      have HBD : Hid (Below W.heap.size W w8.drew) := Lib.hid (bdrewN HB8.out 1)
      have hSd : Below w8.heap.size w8.drew w8.drew := Below.refl _ _
      have hq3 : ∀ w', Below w8.heap.size w8.drew w' → ∀ o, w'.cell? ⟨W.heap.size, o, none⟩ = (#[.int .u8 P, .int .u16 PC] : Array Value)[o]? := fun w' hb => rowcell (bkeep (w := w') (W := w8.drew) hb HOB8.out)
      have hq5 : ∀ w', Below w8.heap.size w8.drew w' → ∀ o, w'.cell? ⟨gx, o, none⟩ = (#[.int .u8 x, .int .u16 xc] : Array Value)[o]? := fun w' hb => rowcell (bkeep (w := w') (W := w8.drew) hb HOC8.out)
      have hq7 : ∀ w', Below w8.heap.size w8.drew w' → ∀ o, w'.cell? ⟨gy, o, none⟩ = (#[.int .u8 x, .int .u16 xc] : Array Value)[o]? := fun w' hb => rowcell (bkeep (w := w') (W := w8.drew) hb HOD8.out)
      have hq9 : ∀ w', Below w8.heap.size w8.drew w' → ∀ o, w'.cell? ⟨gz, o, none⟩ = (#[.int .u8 0, .int .u16 0] : Array Value)[o]? := fun w' hb => rowcell (bkeep (w := w') (W := w8.drew) hb HOE8.out)
      have HW := Lib.hid (show W.heap.size ≤ w8.heap.size from HB8.out.size)
      refine wp_region_held (S := fun w' => Below w8.heap.size w8.drew w') (by kernel_rfl) ?_
      change wpAnyH _ _ _ _ _ _ _ _ (World.drew _)
      refine takeH 0 (.agg #[.int .u8 x, .int .u16 xc]) (some 39) rfl rfl (by kernel_rfl) (by kernel_rfl) (by kernel_rfl) (fun _ _ _ h => h) (.inl ⟨by kernel_rfl, fun w hw => by have hc := hq5 w hw; go_simp⟩) hSd ?_
      refine takeH 1 (.agg #[.int .u8 x, .int .u16 xc]) (some 40) rfl rfl (by kernel_rfl) (by kernel_rfl) (by kernel_rfl) (fun _ _ _ h => h) (.inl ⟨by kernel_rfl, fun w hw => by have hc := hq7 w hw; go_simp⟩) hSd ?_
      refine takeH 2 (.bool true) (some 41) rfl rfl (by kernel_rfl) (by kernel_rfl) (by kernel_rfl) (fun _ _ _ h => h) (.inl ⟨by kernel_rfl, fun w _ => exec_eql (xs := #[.int .u8 x, .int .u16 xc]) (ys := #[.int .u8 x, .int .u16 xc]) rfl (by go_simp) (by go_simp) (by kernel_rfl) (eqLab_same (x, xc) HQK.out w)⟩) hSd ?_
      go_simp
      refine takeH 3 (.bool true) (some 42) rfl rfl (by kernel_rfl) (by kernel_rfl) (by kernel_rfl) (fun _ _ _ h => h) (.inl ⟨by kernel_rfl, fun w _ => by go_simp⟩) hSd ?_
      refine takeH 4 (.int .i64 c) (some 43) rfl rfl (by kernel_rfl) (by kernel_rfl) (by kernel_rfl) (fun _ _ _ h => h) (.inl ⟨by kernel_rfl, fun w _ => by go_simp⟩) hSd ?_
      refine takeH 5 (.int .i64 c) (some 44) rfl rfl (by kernel_rfl) (by kernel_rfl) (by kernel_rfl) (fun _ _ _ h => h) (.inl ⟨by kernel_rfl, fun w _ => by go_simp⟩) hSd ?_
      go_simp
      refine takeH 6 (.bool true) (some 45) rfl rfl (by kernel_rfl) (by kernel_rfl) (by kernel_rfl) (fun _ _ _ h => h) (.inl ⟨by kernel_rfl, fun w _ => by go_simp⟩) hSd ?_
      refine takeH 7 (.bool true) (some 46) rfl rfl (by kernel_rfl) (by kernel_rfl) (by kernel_rfl) (fun _ _ _ h => h) (.inl ⟨by kernel_rfl, fun w _ => by go_simp⟩) hSd ?_
      refine takeH 8 (.bool true) (some 47) rfl rfl (by kernel_rfl) (by kernel_rfl) (by kernel_rfl) (fun _ _ _ h => h) (.inl ⟨by kernel_rfl, fun w _ => by go_simp⟩) hSd ?_
      go_simp
      refine takeH 9 (.agg #[.int .u8 P, .int .u16 PC]) (some 48) rfl rfl (by kernel_rfl) (by kernel_rfl) (by kernel_rfl) (fun _ _ _ h => h) (.inl ⟨by kernel_rfl, fun w hw => by have hc := hq3 w hw; go_simp⟩) hSd ?_
      refine takeH 11 (.agg #[.int .u8 P, .int .u16 PC]) (some 50) rfl rfl (by kernel_rfl) (by kernel_rfl) (by kernel_rfl) (fun _ _ _ h => h) (.inl ⟨by kernel_rfl, fun w hw => by have hc := hq3 w hw; go_simp⟩) hSd ?_
      go_simp
      refine callH 10 rfl (by kernel_rfl) (by kernel_rfl) (some 49) rfl 7 #[.agg #[.int .u8 P, .int .u16 PC]] ?hrun ((HT1.out _ (HTW.out.keep (HBD.out.trans (hSd.mono HW.out)))).mono ?_)
      case hrun => go_simp
      rintro e w9 ⟨he, hb9⟩
      have hS9 : Below w8.heap.size w8.drew w9 := hSd.trans (hb9.mono hSd.size)
      refine ⟨_, he, hS9, ?_⟩
      go_simp
      refine callH 12 rfl (by kernel_rfl) (by kernel_rfl) (some 51) rfl 8 #[.agg #[.int .u8 P, .int .u16 PC]] ?hrun ((HT2.out _).mono ?_)
      case hrun => go_simp
      rintro e w10 ⟨he, hb10⟩
      have hS10 : Below w8.heap.size w8.drew w10 := hS9.trans (hb10.mono hS9.size)
      refine ⟨_, he, hS10, ?_⟩
      go_simp
      refine takeH 13 (.bool true) (some 52) rfl rfl (by kernel_rfl) (by kernel_rfl) (by kernel_rfl) (fun _ _ _ h => h) (.inl ⟨by kernel_rfl, fun w _ => by go_simp⟩) hS10 ?_
      refine takeH 14 (.bool true) (some 53) rfl rfl (by kernel_rfl) (by kernel_rfl) (by kernel_rfl) (fun _ _ _ h => h) (.inl ⟨by kernel_rfl, fun w _ => by go_simp⟩) hS10 ?_
      refine takeH 15 (.bool true) (some 54) rfl rfl (by kernel_rfl) (by kernel_rfl) (by kernel_rfl) (fun _ _ _ h => h) (.inl ⟨by kernel_rfl, fun w _ => by go_simp⟩) hS10 ?_
      go_simp
      refine takeH 16 (.int .i64 27) (some 55) rfl rfl (by kernel_rfl) (by kernel_rfl) (by kernel_rfl) (fun _ _ _ h => h) (.inl ⟨by kernel_rfl, fun w _ => by go_simp⟩) hS10 ?_
      refine takeH 17 (.int .i64 27) (some 56) rfl rfl (by kernel_rfl) (by kernel_rfl) (by kernel_rfl) (fun _ _ _ h => h) (.inl ⟨by kernel_rfl, fun w _ => by go_simp⟩) hS10 ?_
      refine takeH 18 (.bool true) (some 57) rfl rfl (by kernel_rfl) (by kernel_rfl) (by kernel_rfl) (fun _ _ _ h => h) (.inl ⟨by kernel_rfl, fun w _ => by go_simp⟩) hS10 ?_
      go_simp
      refine takeH 19 (.bool true) (some 58) rfl rfl (by kernel_rfl) (by kernel_rfl) (by kernel_rfl) (fun _ _ _ h => h) (.inl ⟨by kernel_rfl, fun w _ => by go_simp⟩) hS10 ?_
      refine takeH 20 (.bool true) (some 59) rfl rfl (by kernel_rfl) (by kernel_rfl) (by kernel_rfl) (fun _ _ _ h => h) (.inl ⟨by kernel_rfl, fun w _ => by go_simp⟩) hS10 ?_
      refine takeH 21 (.int .i64 27) (some 60) rfl rfl (by kernel_rfl) (by kernel_rfl) (by kernel_rfl) (fun _ _ _ h => h) (.inl ⟨by kernel_rfl, fun w _ => by go_simp⟩) hS10 ?_
      go_simp
      refine takeH 22 (.bool true) (some 61) rfl rfl (by kernel_rfl) (by kernel_rfl) (by kernel_rfl) (fun _ _ _ h => h) (.inl ⟨by kernel_rfl, fun w _ => by go_simp⟩) hS10 ?_
      refine takeH 23 (.bool true) (some 62) rfl rfl (by kernel_rfl) (by kernel_rfl) (by kernel_rfl) (fun _ _ _ h => h) (.inl ⟨by kernel_rfl, fun w _ => by go_simp⟩) hS10 ?_
      go_simp
      refine takeH 24 (undef) (some 63) rfl rfl (by kernel_rfl) (by kernel_rfl) (by kernel_rfl) (fun _ _ _ h => h) (.inr ⟨by kernel_rfl, rfl⟩) hS10 ?_
      refine takeH 25 (undef) (some 64) rfl rfl (by kernel_rfl) (by kernel_rfl) (by kernel_rfl) (fun _ _ _ h => h) (.inr ⟨by kernel_rfl, rfl⟩) hS10 ?_
      refine takeH 26 (undef) (some 65) rfl rfl (by kernel_rfl) (by kernel_rfl) (by kernel_rfl) (fun _ _ _ h => h) (.inr ⟨by kernel_rfl, rfl⟩) hS10 ?_
      go_simp
      refine takeH 27 (.bool true) (some 66) rfl rfl (by kernel_rfl) (by kernel_rfl) (by kernel_rfl) (fun _ _ _ h => h) (.inl ⟨by kernel_rfl, fun w _ => by go_simp⟩) hS10 ?_
      refine takeH 28 (.bool true) (some 67) rfl rfl (by kernel_rfl) (by kernel_rfl) (by kernel_rfl) (fun _ _ _ h => h) (.inl ⟨by kernel_rfl, fun w _ => by go_simp⟩) hS10 ?_
      refine takeH 29 (.bool true) (some 4) rfl rfl (by kernel_rfl) (by kernel_rfl) (by kernel_rfl) (fun _ _ _ h => h) (.inl ⟨by kernel_rfl, fun w _ => by go_simp⟩) hS10 ?_
      refine wpAnyH_done (by kernel_rfl) ?_ _
      go_simp
      go_wp2_with fail
      go_ret
      exact ⟨rfl, HBD.out.trans (hS10.mono HW.out)⟩
    ·
      have g1 : decide ((99 : Int) < P) = false := by rw [decide_eq_false_iff_not]; omega
      have g1n : decide (99 < P) = false := by rw [decide_eq_false_iff_not]; omega
      have g2 : decide ((15 : Int) < P) = false := by rw [decide_eq_false_iff_not]; omega
      have g2n : decide (15 < P) = false := by rw [decide_eq_false_iff_not]; omega
      rw [if_neg h99, if_neg h15]
      unfold retR labV
      go_upto_region 8 with fail
      have hB8 := bnewAfter hB7 (.cells #[.int .u8 P, .int .u16 PC] 24)
      have hob8 := bkeep (bnew w7 (.cells #[.int .u8 P, .int .u16 PC] 24)) hob7
      have hoc8 := bkeep (bnew w7 (.cells #[.int .u8 P, .int .u16 PC] 24)) hoc7
      have hod8 := bkeep (bnew w7 (.cells #[.int .u8 P, .int .u16 PC] 24)) hod7
      have hoe8 := heap_alloc_last w7 (.cells #[.int .u8 P, .int .u16 PC] 24)
      clear hob7 hoc7 hod7 hB7
      generalize w7.alloc (.cells #[.int .u8 P, .int .u16 PC] 24) = w8 at *
      generalize w7.heap.size = gz at *
      have HB8 := Lib.hid hB8
      have HOB8 := Lib.hid hob8
      have HOC8 := Lib.hid hoc8
      have HOD8 := Lib.hid hod8
      have HOE8 := Lib.hid hoe8
      have hx8 := rowcell hob8
      clear hB8 hob8 hoc8 hod8 hoe8
      go_upto_region 13 with fail
      clear hx8
      have HBD : Hid (Below W.heap.size W w8.drew) := Lib.hid (bdrewN HB8.out 1)
      have hSd : Below w8.heap.size w8.drew w8.drew := Below.refl _ _
      have hq3 : ∀ w', Below w8.heap.size w8.drew w' → ∀ o, w'.cell? ⟨W.heap.size, o, none⟩ = (#[.int .u8 P, .int .u16 PC] : Array Value)[o]? := fun w' hb => rowcell (bkeep (w := w') (W := w8.drew) hb HOB8.out)
      have hq5 : ∀ w', Below w8.heap.size w8.drew w' → ∀ o, w'.cell? ⟨gx, o, none⟩ = (#[.int .u8 x, .int .u16 xc] : Array Value)[o]? := fun w' hb => rowcell (bkeep (w := w') (W := w8.drew) hb HOC8.out)
      have hq7 : ∀ w', Below w8.heap.size w8.drew w' → ∀ o, w'.cell? ⟨gy, o, none⟩ = (#[.int .u8 x, .int .u16 xc] : Array Value)[o]? := fun w' hb => rowcell (bkeep (w := w') (W := w8.drew) hb HOD8.out)
      have hq9 : ∀ w', Below w8.heap.size w8.drew w' → ∀ o, w'.cell? ⟨gz, o, none⟩ = (#[.int .u8 P, .int .u16 PC] : Array Value)[o]? := fun w' hb => rowcell (bkeep (w := w') (W := w8.drew) hb HOE8.out)
      have HW := Lib.hid (show W.heap.size ≤ w8.heap.size from HB8.out.size)
      refine wp_region_held (S := fun w' => Below w8.heap.size w8.drew w') (by kernel_rfl) ?_
      change wpAnyH _ _ _ _ _ _ _ _ (World.drew _)
      refine takeH 0 (.agg #[.int .u8 x, .int .u16 xc]) (some 39) rfl rfl (by kernel_rfl) (by kernel_rfl) (by kernel_rfl) (fun _ _ _ h => h) (.inl ⟨by kernel_rfl, fun w hw => by have hc := hq5 w hw; go_simp⟩) hSd ?_
      refine takeH 1 (.agg #[.int .u8 x, .int .u16 xc]) (some 40) rfl rfl (by kernel_rfl) (by kernel_rfl) (by kernel_rfl) (fun _ _ _ h => h) (.inl ⟨by kernel_rfl, fun w hw => by have hc := hq7 w hw; go_simp⟩) hSd ?_
      refine takeH 2 (.bool true) (some 41) rfl rfl (by kernel_rfl) (by kernel_rfl) (by kernel_rfl) (fun _ _ _ h => h) (.inl ⟨by kernel_rfl, fun w _ => exec_eql (xs := #[.int .u8 x, .int .u16 xc]) (ys := #[.int .u8 x, .int .u16 xc]) rfl (by go_simp) (by go_simp) (by kernel_rfl) (eqLab_same (x, xc) HQK.out w)⟩) hSd ?_
      go_simp
      refine takeH 3 (.bool true) (some 42) rfl rfl (by kernel_rfl) (by kernel_rfl) (by kernel_rfl) (fun _ _ _ h => h) (.inl ⟨by kernel_rfl, fun w _ => by go_simp⟩) hSd ?_
      refine takeH 4 (.int .i64 c) (some 43) rfl rfl (by kernel_rfl) (by kernel_rfl) (by kernel_rfl) (fun _ _ _ h => h) (.inl ⟨by kernel_rfl, fun w _ => by go_simp⟩) hSd ?_
      refine takeH 5 (.int .i64 c) (some 44) rfl rfl (by kernel_rfl) (by kernel_rfl) (by kernel_rfl) (fun _ _ _ h => h) (.inl ⟨by kernel_rfl, fun w _ => by go_simp⟩) hSd ?_
      go_simp
      refine takeH 6 (.bool true) (some 45) rfl rfl (by kernel_rfl) (by kernel_rfl) (by kernel_rfl) (fun _ _ _ h => h) (.inl ⟨by kernel_rfl, fun w _ => by go_simp⟩) hSd ?_
      refine takeH 7 (.bool true) (some 46) rfl rfl (by kernel_rfl) (by kernel_rfl) (by kernel_rfl) (fun _ _ _ h => h) (.inl ⟨by kernel_rfl, fun w _ => by go_simp⟩) hSd ?_
      refine takeH 8 (.bool true) (some 47) rfl rfl (by kernel_rfl) (by kernel_rfl) (by kernel_rfl) (fun _ _ _ h => h) (.inl ⟨by kernel_rfl, fun w _ => by go_simp⟩) hSd ?_
      go_simp
      refine takeH 9 (.agg #[.int .u8 P, .int .u16 PC]) (some 48) rfl rfl (by kernel_rfl) (by kernel_rfl) (by kernel_rfl) (fun _ _ _ h => h) (.inl ⟨by kernel_rfl, fun w hw => by have hc := hq3 w hw; go_simp⟩) hSd ?_
      refine takeH 11 (.agg #[.int .u8 P, .int .u16 PC]) (some 50) rfl rfl (by kernel_rfl) (by kernel_rfl) (by kernel_rfl) (fun _ _ _ h => h) (.inl ⟨by kernel_rfl, fun w hw => by have hc := hq3 w hw; go_simp⟩) hSd ?_
      go_simp
      refine callH 10 rfl (by kernel_rfl) (by kernel_rfl) (some 49) rfl 7 #[.agg #[.int .u8 P, .int .u16 PC]] ?hrun ((HT1.out _ (HTW.out.keep (HBD.out.trans (hSd.mono HW.out)))).mono ?_)
      case hrun => go_simp
      rintro e w9 ⟨he, hb9⟩
      have hS9 : Below w8.heap.size w8.drew w9 := hSd.trans (hb9.mono hSd.size)
      refine ⟨_, he, hS9, ?_⟩
      go_simp
      refine callH 12 rfl (by kernel_rfl) (by kernel_rfl) (some 51) rfl 8 #[.agg #[.int .u8 P, .int .u16 PC]] ?hrun ((HT2.out _).mono ?_)
      case hrun => go_simp
      rintro e w10 ⟨he, hb10⟩
      have hS10 : Below w8.heap.size w8.drew w10 := hS9.trans (hb10.mono hS9.size)
      refine ⟨_, he, hS10, ?_⟩
      go_simp
      refine takeH 13 (.bool true) (some 52) rfl rfl (by kernel_rfl) (by kernel_rfl) (by kernel_rfl) (fun _ _ _ h => h) (.inl ⟨by kernel_rfl, fun w _ => by go_simp⟩) hS10 ?_
      refine takeH 14 (.bool true) (some 53) rfl rfl (by kernel_rfl) (by kernel_rfl) (by kernel_rfl) (fun _ _ _ h => h) (.inl ⟨by kernel_rfl, fun w _ => by go_simp⟩) hS10 ?_
      refine takeH 15 (.bool true) (some 54) rfl rfl (by kernel_rfl) (by kernel_rfl) (by kernel_rfl) (fun _ _ _ h => h) (.inl ⟨by kernel_rfl, fun w _ => by go_simp⟩) hS10 ?_
      go_simp
      refine takeH 16 (.int .i64 0) (some 55) rfl rfl (by kernel_rfl) (by kernel_rfl) (by kernel_rfl) (fun _ _ _ h => h) (.inl ⟨by kernel_rfl, fun w _ => by go_simp⟩) hS10 ?_
      refine takeH 17 (.int .i64 0) (some 56) rfl rfl (by kernel_rfl) (by kernel_rfl) (by kernel_rfl) (fun _ _ _ h => h) (.inl ⟨by kernel_rfl, fun w _ => by go_simp⟩) hS10 ?_
      refine takeH 18 (.bool true) (some 57) rfl rfl (by kernel_rfl) (by kernel_rfl) (by kernel_rfl) (fun _ _ _ h => h) (.inl ⟨by kernel_rfl, fun w _ => by go_simp⟩) hS10 ?_
      go_simp
      refine takeH 19 (.bool true) (some 58) rfl rfl (by kernel_rfl) (by kernel_rfl) (by kernel_rfl) (fun _ _ _ h => h) (.inl ⟨by kernel_rfl, fun w _ => by go_simp⟩) hS10 ?_
      refine takeH 20 (.bool true) (some 59) rfl rfl (by kernel_rfl) (by kernel_rfl) (by kernel_rfl) (fun _ _ _ h => h) (.inl ⟨by kernel_rfl, fun w _ => by go_simp⟩) hS10 ?_
      refine takeH 21 (.int .i64 0) (some 60) rfl rfl (by kernel_rfl) (by kernel_rfl) (by kernel_rfl) (fun _ _ _ h => h) (.inl ⟨by kernel_rfl, fun w _ => by go_simp⟩) hS10 ?_
      go_simp
      refine takeH 22 (.bool false) (some 61) rfl rfl (by kernel_rfl) (by kernel_rfl) (by kernel_rfl) (fun _ _ _ h => h) (.inl ⟨by kernel_rfl, fun w _ => by go_simp⟩) hS10 ?_
      refine takeH 23 (.bool false) (some 62) rfl rfl (by kernel_rfl) (by kernel_rfl) (by kernel_rfl) (fun _ _ _ h => h) (.inl ⟨by kernel_rfl, fun w _ => by go_simp⟩) hS10 ?_
      go_simp
      refine takeH 24 (.agg #[.int .u8 P, .int .u16 PC]) (some 63) rfl rfl (by kernel_rfl) (by kernel_rfl) (by kernel_rfl) (fun _ _ _ h => h) (.inl ⟨by kernel_rfl, fun w hw => by have hc := hq9 w hw; go_simp⟩) hS10 ?_
      refine takeH 25 (.agg #[.int .u8 P, .int .u16 PC]) (some 64) rfl rfl (by kernel_rfl) (by kernel_rfl) (by kernel_rfl) (fun _ _ _ h => h) (.inl ⟨by kernel_rfl, fun w hw => by have hc := hq3 w hw; go_simp⟩) hS10 ?_
      refine takeH 26 (.bool true) (some 65) rfl rfl (by kernel_rfl) (by kernel_rfl) (by kernel_rfl) (fun _ _ _ h => h) (.inl ⟨by kernel_rfl, fun w _ => exec_eql (xs := #[.int .u8 P, .int .u16 PC]) (ys := #[.int .u8 P, .int .u16 PC]) rfl (by go_simp) (by go_simp) (by kernel_rfl) (eqLab_same (P, PC) HPK.out w)⟩) hS10 ?_
      go_simp
      refine takeH 27 (.bool true) (some 66) rfl rfl (by kernel_rfl) (by kernel_rfl) (by kernel_rfl) (fun _ _ _ h => h) (.inl ⟨by kernel_rfl, fun w _ => by go_simp⟩) hS10 ?_
      refine takeH 28 (.bool true) (some 67) rfl rfl (by kernel_rfl) (by kernel_rfl) (by kernel_rfl) (fun _ _ _ h => h) (.inl ⟨by kernel_rfl, fun w _ => by go_simp⟩) hS10 ?_
      refine takeH 29 (.bool true) (some 4) rfl rfl (by kernel_rfl) (by kernel_rfl) (by kernel_rfl) (fun _ _ _ h => h) (.inl ⟨by kernel_rfl, fun w _ => by go_simp⟩) hS10 ?_
      refine wpAnyH_done (by kernel_rfl) ?_ _
      go_simp
      go_wp2_with fail
      go_ret
      exact ⟨rfl, HBD.out.trans (hS10.mono HW.out)⟩
end Go.Proofs.YtmieioaklgdbdaaDoor
