/- The law LabelMakes: the walk. -/
import Derived.Test.YtcjnnonfnlemmaaDoorLabI
import Derived.Test.YtcjnnonfnlemmaaDoorPc
set_option linter.unusedVariables false
set_option linter.unusedSimpArgs false
namespace Go.Proofs.YtcjnnonfnlemmaaDoor
open Go.RowKit

theorem keyLits_lab (p : Nat × Nat) (hp : okL p) : Tryd.prog.keyLits 2 25 [.int .u8 p.1, .int .u16 p.2] = some [.int .u8 p.1, .int .u16 p.2] := by
  have h2 := hp.2
  have h1 := hp.1
  have e8 : Tryd.prog.keyLits 1 5 [.int .u8 (p.1 : Int)] = some [.int .u8 p.1] := by simp [Program.keyLits, Tryd.underlying5, u8_wf (show 0 ≤ (p.1 : Int) ∧ (p.1 : Int) ≤ 255 by omega)]
  have e16 : Tryd.prog.keyLits 1 23 [.int .u16 (p.2 : Int)] = some [.int .u16 p.2] := by simp [Program.keyLits, Tryd.underlying23, u16_wf (show 0 ≤ (p.2 : Int) ∧ (p.2 : Int) ≤ 65535 by omega)]
  have z1 : Tryd.prog.cellsOf 25 = 2 := by kernel_rfl
  have z2 : Tryd.prog.cellsOf 5 = 1 := by kernel_rfl
  have z3 : Tryd.prog.cellsOf 23 = 1 := by kernel_rfl
  unfold Program.keyLits
  simp [Tryd.underlying25, z1, z2, z3, e8, e16]
theorem formed_lab (p : Nat × Nat) : (Value.agg #[.int .u8 (p.1 : Int), .int .u16 (p.2 : Int)]).formed Tryd.prog 25 = true := by
  have z1 : Tryd.prog.cellsOf 25 = 2 := by kernel_rfl
  simp [Value.formed, Tryd.underlying25, z1]
/-- '==' on labels. -/
theorem eqLab (p q : Nat × Nat) (hp : okL p) (hq : okL q) (w : World) :
    (Op.equalIn 10000 25 (.agg #[.int .u8 p.1, .int .u16 p.2]) (.agg #[.int .u8 q.1, .int .u16 q.2])).run Tryd.prog w = .ok (decide (p = q)) w :=
  equal_key 2 (by omega) (by kernel_rfl) (formed_lab p) (formed_lab q) (keyLits_lab p hp) (keyLits_lab q hq) (by
    obtain ⟨a, b⟩ := p
    obtain ⟨c, d⟩ := q
    simp
    omega)
theorem eqLab_same (p : Nat × Nat) (hp : okL p) (w : World) :
    (Op.equalIn 10000 25 (.agg #[.int .u8 p.1, .int .u16 p.2]) (.agg #[.int .u8 p.1, .int .u16 p.2])).run Tryd.prog w = .ok true w := by
  have := eqLab p p hp hp w
  rwa [decide_eq_true rfl] at this

theorem SI.ofInts {w : World} {base : Nat} {v : Value} {l : List Nat} (h : w.ownsRow base 3 1 v l.length (ints l)) (hl : ∀ c ∈ l, c < 16) : SI w .i64 v (l.map fun (j : Nat) => (j : Int)) := by
  refine ⟨?_, fun z hz => ?_⟩
  · have := SR.of_own h
    simpa [ints, Function.comp_def] using this
  · simp only [List.mem_map] at hz
    obtain ⟨c, hc, rfl⟩ := hz
    have := hl c hc
    exact i64_wf (by omega)

set_option maxRecDepth 100000 in
set_option maxHeartbeats 8000000 in
theorem labelMakes_walk (W : World) (hT : Tab W) (v0 v1 v2 : Value) (o0 : Arg Tryd.prog W 3 v0) (o1 : Arg Tryd.prog W 22 v1) (o2 : Arg Tryd.prog W 25 v2) :
    Calls Tryd.prog 3 #[v0, v1, v2] W fun e w' => e = .returned (.bool true) ∧ Below W.heap.size W w' := by
  obtain ⟨l, rfl, hwl⟩ := Arg.int Tryd.underlying3 o0
  obtain ⟨cs, hz⟩ := SI.of_arg (k := .i64) Tryd.underlying22 Tryd.underlying3 (by kernel_rfl) o1
  obtain ⟨p, rfl, hp⟩ := lab_of_arg ⟨_, Tryd.underlying25⟩ (by kernel_rfl) o2
  clear o0 o1 o2
  obtain ⟨A, cap, rfl, hlc, hcm⟩ := hz.sr.form
  have HZ := Lib.hid hz
  clear hz
  have hp1 := hp.1
  have hcl : (catsL p.2).length ≤ 16 := Nat.le_trans (List.length_filter_le _ _) (by simp)
  have hB0 := bnew W (.cells #[.int .u8 p.1, .int .u16 p.2] 25)
  have hob0 := heap_alloc_last W (.cells #[.int .u8 p.1, .int .u16 p.2] 25)
  unfold labV
  by_cases hbig : 100 < (cs.length : Int)
  · go_enter Tryd.func3, Tryd.ntmps3
    go_wp2_with (go_at_call 8; refine (labAwake_any _ (hT.keep hB0)).mono ?_; rintro e w1 ⟨he, hb⟩; subst he)
    go_ret
    exact ⟨rfl, bnext hB0 hb⟩
  have hlen : (cs.length : Int) ≤ 100 := by omega
  go_enter Tryd.func3, Tryd.ntmps3
  go_wp2_with fail
  go_at_call 8; refine (labAwake_any _ (hT.keep hB0)).mono ?_; rintro e w1 ⟨he, hb1⟩; subst he
  have hB1 := bnext hB0 hb1
  have hob1 := bkeep hb1 hob0
  clear hob0
  go_wp2_with fail
  go_at_call 9
  refine (labMake_any l _ cs w1 (HZ.out.keep hB1) (by omega)).mono ?_
  rintro e w2 ⟨⟨hok, he⟩ | ⟨hno, he⟩, hb2⟩
  · subst he
    obtain ⟨x, hx⟩ : ∃ x, x = (l.toNat, orAll cs) := ⟨_, rfl⟩
    rw [← hx]
    have HX := Lib.hid hx
    clear hx
    unfold labV
    have hB2 := bnext hB1 hb2
    have hob2 := bkeep hb2 hob1
    go_wp2_with fail
    have hB3 := bnewAfter hB2 (.cells #[.int .u8 x.1, .int .u16 x.2] 25)
    have hob3 := bkeep (bnew w2 (.cells #[.int .u8 x.1, .int .u16 x.2] 25)) hob2
    have hoc3 := heap_alloc_last w2 (.cells #[.int .u8 x.1, .int .u16 x.2] 25)
    clear hob1 hob2
    generalize w2.alloc (.cells #[.int .u8 x.1, .int .u16 x.2] 25) = w3 at *
    generalize w2.heap.size = g7 at *
    go_at_call 10
    refine (refOf_any l _ cs w3 (HZ.out.keep hB3) (by omega)).mono ?_
    rintro e w4 ⟨⟨hok', he⟩ | ⟨hno', he⟩, hb4⟩
    case inr => exact absurd hok hno'
    subst he
    rw [← HX.out]
    unfold labV
    have hB4 := hB3.trans (hb4.mono hB3.size)
    have hob4 := bkeep hb4 hob3
    have hoc4 := bkeep hb4 hoc3
    go_wp2_with fail
    have hB5 := bnewAfter hB4 (.cells #[.int .u8 x.1, .int .u16 x.2] 25)
    have hob5 := bkeep (bnew w4 (.cells #[.int .u8 x.1, .int .u16 x.2] 25)) hob4
    have hoc5 := bkeep (bnew w4 (.cells #[.int .u8 x.1, .int .u16 x.2] 25)) hoc4
    have hod5 := heap_alloc_last w4 (.cells #[.int .u8 x.1, .int .u16 x.2] 25)
    clear hob3 hoc3 hob4 hoc4
    generalize w4.alloc (.cells #[.int .u8 x.1, .int .u16 x.2] 25) = w6 at *
    generalize w4.heap.size = g9 at *
    have hB6 : Below W.heap.size W w6.drew := bdrewN hB5 1
    have hT6 : Tab w6.drew := hT.keep hB6
    have hSd : Below w6.heap.size w6.drew w6.drew := Below.refl _ _
    have hq5 : ∀ w', Below w6.heap.size w6.drew w' → ∀ o, w'.cell? ⟨W.heap.size, o, none⟩ = (#[.int .u8 p.1, .int .u16 p.2] : Array Value)[o]? := fun w' hb => rowcell (bkeep (w := w') (W := w6.drew) hb hob5)
    have hq7 : ∀ w', Below w6.heap.size w6.drew w' → ∀ o, w'.cell? ⟨g7, o, none⟩ = (#[.int .u8 x.1, .int .u16 x.2] : Array Value)[o]? := fun w' hb => rowcell (bkeep (w := w') (W := w6.drew) hb hoc5)
    have hq9 : ∀ w', Below w6.heap.size w6.drew w' → ∀ o, w'.cell? ⟨g9, o, none⟩ = (#[.int .u8 x.1, .int .u16 x.2] : Array Value)[o]? := fun w' hb => rowcell (bkeep (w := w') (W := w6.drew) hb hod5)
    have hw0 : IntKind.i64.wrap (p.1 : Int) = p.1 := by rw [IntKind.wrap_i64]; omega
    have hwr : IntKind.i64.wrap ((p.1 : Int) + ((catsL p.2).length : Int)) = ((p.1 + (catsL p.2).length : Nat) : Int) := by rw [IntKind.wrap_i64]; omega
    refine wp_region_held (S := fun w' => Below w6.heap.size w6.drew w') (by kernel_rfl) ?_
    change wpAnyH _ _ _ _ _ _ _ _ (World.drew _)
    have hxok : okL x := by rw [HX.out]; exact ⟨by show l.toNat ≤ 255; have := hok.1; omega, orAll_lt cs 0 (by omega) hok.2⟩
    refine takeH 0 (.agg #[.int .u8 x.1, .int .u16 x.2]) (some 28) rfl rfl (by kernel_rfl) (by kernel_rfl) (by kernel_rfl) (fun _ _ _ h => h) (.inl ⟨by kernel_rfl, fun w hw => by have hc := hq7 w hw; go_simp⟩) hSd ?_
    refine takeH 1 (.agg #[.int .u8 x.1, .int .u16 x.2]) (some 29) rfl rfl (by kernel_rfl) (by kernel_rfl) (by kernel_rfl) (fun _ _ _ h => h) (.inl ⟨by kernel_rfl, fun w hw => by have hc := hq9 w hw; go_simp⟩) hSd ?_
    refine takeH 2 (.bool true) (some 30) rfl rfl (by kernel_rfl) (by kernel_rfl) (by kernel_rfl) (fun _ _ _ h => h) (.inl ⟨by kernel_rfl, fun w _ => exec_eql (xs := #[.int .u8 x.1, .int .u16 x.2]) (ys := #[.int .u8 x.1, .int .u16 x.2]) rfl (by go_simp) (by go_simp) (by kernel_rfl) (eqLab_same x hxok w)⟩) hSd ?_
    refine takeH 3 (.bool true) (some 31) rfl rfl (by kernel_rfl) (by kernel_rfl) (by kernel_rfl) (fun _ _ _ h => h) (.inl ⟨by kernel_rfl, fun w _ => by go_simp⟩) hSd ?_
    refine takeH 4 (.int .i64 0) (some 32) rfl rfl (by kernel_rfl) (by kernel_rfl) (by kernel_rfl) (fun _ _ _ h => h) (.inl ⟨by kernel_rfl, fun w _ => by go_simp⟩) hSd ?_
    refine takeH 5 (.bool true) (some 33) rfl rfl (by kernel_rfl) (by kernel_rfl) (by kernel_rfl) (fun _ _ _ h => h) (.inl ⟨by kernel_rfl, fun w _ => by go_simp⟩) hSd ?_
    refine takeH 6 (.bool true) (some 34) rfl rfl (by kernel_rfl) (by kernel_rfl) (by kernel_rfl) (fun _ _ _ h => h) (.inl ⟨by kernel_rfl, fun w _ => by go_simp⟩) hSd ?_
    refine takeH 7 (.bool true) (some 35) rfl rfl (by kernel_rfl) (by kernel_rfl) (by kernel_rfl) (fun _ _ _ h => h) (.inl ⟨by kernel_rfl, fun w _ => by go_simp⟩) hSd ?_
    refine takeH 8 (.bool true) (some 36) rfl rfl (by kernel_rfl) (by kernel_rfl) (by kernel_rfl) (fun _ _ _ h => h) (.inl ⟨by kernel_rfl, fun w _ => by go_simp⟩) hSd ?_
    refine takeH 9 (.bool true) (some 37) rfl rfl (by kernel_rfl) (by kernel_rfl) (by kernel_rfl) (fun _ _ _ h => h) (.inl ⟨by kernel_rfl, fun w _ => by go_simp⟩) hSd ?_
    refine takeH 10 (.bool true) (some 38) rfl rfl (by kernel_rfl) (by kernel_rfl) (by kernel_rfl) (fun _ _ _ h => h) (.inl ⟨by kernel_rfl, fun w _ => by go_simp⟩) hSd ?_
    refine takeH 11 (.bool true) (some 39) rfl rfl (by kernel_rfl) (by kernel_rfl) (by kernel_rfl) (fun _ _ _ h => h) (.inl ⟨by kernel_rfl, fun w _ => by go_simp⟩) hSd ?_
    refine takeH 12 (undef) (some 40) rfl rfl (by kernel_rfl) (by kernel_rfl) (by kernel_rfl) (fun _ _ _ h => h) (.inr ⟨by kernel_rfl, rfl⟩) hSd ?_
    refine takeH 13 (undef) (some 41) rfl rfl (by kernel_rfl) (by kernel_rfl) (by kernel_rfl) (fun _ _ _ h => h) (.inr ⟨by kernel_rfl, rfl⟩) hSd ?_
    refine takeH 14 (.bool true) (some 42) rfl rfl (by kernel_rfl) (by kernel_rfl) (by kernel_rfl) (fun _ _ _ h => h) (.inl ⟨by kernel_rfl, fun w _ => by go_simp⟩) hSd ?_
    refine takeH 15 (.bool true) (some 43) rfl rfl (by kernel_rfl) (by kernel_rfl) (by kernel_rfl) (fun _ _ _ h => h) (.inl ⟨by kernel_rfl, fun w _ => by go_simp⟩) hSd ?_
    refine takeH 16 (.bool true) (some 44) rfl rfl (by kernel_rfl) (by kernel_rfl) (by kernel_rfl) (fun _ _ _ h => h) (.inl ⟨by kernel_rfl, fun w _ => by go_simp⟩) hSd ?_
    refine takeH 17 (.agg #[.int .u8 p.1, .int .u16 p.2]) (some 45) rfl rfl (by kernel_rfl) (by kernel_rfl) (by kernel_rfl) (fun _ _ _ h => h) (.inl ⟨by kernel_rfl, fun w hw => by have hc := hq5 w hw; go_simp⟩) hSd ?_
    refine takeH 19 (.pointer (some ⟨W.heap.size, 0, none⟩)) (some 47) rfl rfl (by kernel_rfl) (by kernel_rfl) (by kernel_rfl) (fun _ _ _ h => h) (.inl ⟨by kernel_rfl, fun w _ => by go_simp⟩) hSd ?_
    refine takeH 20 (.int .u8 p.1) (some 48) rfl rfl (by kernel_rfl) (by kernel_rfl) (by kernel_rfl) (fun _ _ _ h => h) (.inl ⟨by kernel_rfl, fun w hw => by have hc := hq5 w hw; go_simp⟩) hSd ?_
    refine takeH 21 (.bool (decide (p.1 ≤ 15))) (some 49) rfl rfl (by kernel_rfl) (by kernel_rfl) (by kernel_rfl) (fun _ _ _ h => h) (.inl ⟨by kernel_rfl, fun w _ => by go_simp; omega⟩) hSd ?_
    refine callH 18 rfl (by kernel_rfl) (by kernel_rfl) (some 46) rfl 11 #[.agg #[.int .u8 p.1, .int .u16 p.2]] ?hrun ((labValid_any p _).mono ?_)
    case hrun => go_simp
    rintro e w7 ⟨he, hb7⟩
    have hS7 : Below w6.heap.size w6.drew w7 := hSd.trans hb7
    refine ⟨_, he, hS7, ?_⟩
    refine takeH 22 (.bool true) (some 50) rfl rfl (by kernel_rfl) (by kernel_rfl) (by kernel_rfl) (fun _ _ _ h => h) (.inl ⟨by kernel_rfl, fun w _ => by go_simp⟩) hS7 ?_
    refine takeH 23 (.bool true) (some 51) rfl rfl (by kernel_rfl) (by kernel_rfl) (by kernel_rfl) (fun _ _ _ h => h) (.inl ⟨by kernel_rfl, fun w _ => by go_simp⟩) hS7 ?_
    refine takeH 24 (.bool true) (some 52) rfl rfl (by kernel_rfl) (by kernel_rfl) (by kernel_rfl) (fun _ _ _ h => h) (.inl ⟨by kernel_rfl, fun w _ => by go_simp⟩) hS7 ?_
    refine takeH 25 (.agg #[.int .u8 p.1, .int .u16 p.2]) (some 53) rfl rfl (by kernel_rfl) (by kernel_rfl) (by kernel_rfl) (fun _ _ _ h => h) (.inl ⟨by kernel_rfl, fun w hw => by have hc := hq5 w hw; go_simp⟩) hS7 ?_
    refine takeH 27 (.agg #[.int .u8 p.1, .int .u16 p.2]) (some 55) rfl rfl (by kernel_rfl) (by kernel_rfl) (by kernel_rfl) (fun _ _ _ h => h) (.inl ⟨by kernel_rfl, fun w hw => by have hc := hq5 w hw; go_simp⟩) hS7 ?_
    refine callH 26 rfl (by kernel_rfl) (by kernel_rfl) (some 54) rfl 13 #[.agg #[.int .u8 p.1, .int .u16 p.2]] ?hrun ((labCats_any p hp _ (hT6.keep hS7)).mono ?_)
    case hrun => go_simp
    rintro e w8 ⟨vc, he, hown8, hb8⟩
    have hS8 : Below w6.heap.size w6.drew w8 := hS7.trans (hb8.mono hS7.size)
    refine ⟨_, he, hS8, ?_⟩
    refine callH 28 rfl (by kernel_rfl) (by kernel_rfl) (some 56) rfl 14 #[.agg #[.int .u8 p.1, .int .u16 p.2]] ?hrun ((refCats_any p hp _).mono ?_)
    case hrun => go_simp
    rintro e w9 ⟨vd, he, hown9, hb9⟩
    have hS9 : Below w6.heap.size w6.drew w9 := hS8.trans (hb9.mono hS8.size)
    have hs8 := (SI.ofInts hown8 (catsL_lt p.2)).keep hb9
    have hs9 := SI.ofInts hown9 (catsL_lt p.2)
    refine ⟨_, he, hS9, ?_⟩
    refine callH 29 rfl (by kernel_rfl) (by kernel_rfl) (some 57) rfl 12 #[vc, vd] ?hrun ((sameInts_any vc vd _ _ hs8 hs9 (by rw [List.length_map]; omega)).mono ?_)
    case hrun => go_simp
    rintro e w10 ⟨he, hb10⟩
    have hS10 : Below w6.heap.size w6.drew w10 := hS9.trans (hb10.mono hS9.size)
    refine ⟨_, he, hS10, ?_⟩
    refine takeH 30 (.bool true) (some 58) rfl rfl (by kernel_rfl) (by kernel_rfl) (by kernel_rfl) (fun _ _ _ h => h) (.inl ⟨by kernel_rfl, fun w _ => by go_simp⟩) hS10 ?_
    refine takeH 31 (.bool true) (some 59) rfl rfl (by kernel_rfl) (by kernel_rfl) (by kernel_rfl) (fun _ _ _ h => h) (.inl ⟨by kernel_rfl, fun w _ => by go_simp⟩) hS10 ?_
    refine takeH 32 (.agg #[.int .u8 p.1, .int .u16 p.2]) (some 60) rfl rfl (by kernel_rfl) (by kernel_rfl) (by kernel_rfl) (fun _ _ _ h => h) (.inl ⟨by kernel_rfl, fun w hw => by have hc := hq5 w hw; go_simp⟩) hS10 ?_
    refine takeH 34 (.pointer (some ⟨W.heap.size, 0, none⟩)) (some 62) rfl rfl (by kernel_rfl) (by kernel_rfl) (by kernel_rfl) (fun _ _ _ h => h) (.inl ⟨by kernel_rfl, fun w _ => by go_simp⟩) hS10 ?_
    refine takeH 35 (.int .u8 p.1) (some 63) rfl rfl (by kernel_rfl) (by kernel_rfl) (by kernel_rfl) (fun _ _ _ h => h) (.inl ⟨by kernel_rfl, fun w hw => by have hc := hq5 w hw; go_simp⟩) hS10 ?_
    refine takeH 36 (.int .i64 p.1) (some 64) rfl rfl (by kernel_rfl) (by kernel_rfl) (by kernel_rfl) (fun _ _ _ h => h) (.inl ⟨by kernel_rfl, fun w _ => by go_simp⟩) hS10 ?_
    refine takeH 37 (.agg #[.int .u8 p.1, .int .u16 p.2]) (some 65) rfl rfl (by kernel_rfl) (by kernel_rfl) (by kernel_rfl) (fun _ _ _ h => h) (.inl ⟨by kernel_rfl, fun w hw => by have hc := hq5 w hw; go_simp⟩) hS10 ?_
    refine callH 33 rfl (by kernel_rfl) (by kernel_rfl) (some 61) rfl 15 #[.agg #[.int .u8 p.1, .int .u16 p.2]] ?hrun ((labRank_any p hp _).mono ?_)
    case hrun => go_simp
    rintro e w11 ⟨he, hb11⟩
    have hS11 : Below w6.heap.size w6.drew w11 := hS10.trans (hb11.mono hS10.size)
    refine ⟨_, he, hS11, ?_⟩
    refine callH 38 rfl (by kernel_rfl) (by kernel_rfl) (some 66) rfl 14 #[.agg #[.int .u8 p.1, .int .u16 p.2]] ?hrun ((refCats_any p hp _).mono ?_)
    case hrun => go_simp
    rintro e w12 ⟨ve, he, hown12, hb12⟩
    have hS12 : Below w6.heap.size w6.drew w12 := hS11.trans (hb12.mono hS11.size)
    obtain ⟨ade, ce, rfl⟩ := own_form hown12
    refine ⟨_, he, hS12, ?_⟩
    refine takeH 39 (.int .i64 ((catsL p.2).length : Nat)) (some 67) rfl rfl (by kernel_rfl) (by kernel_rfl) (by kernel_rfl) (fun _ _ _ h => h) (.inl ⟨by kernel_rfl, fun w _ => by go_simp⟩) hS12 ?_
    refine takeH 40 (.int .i64 ((p.1 + (catsL p.2).length : Nat) : Int)) (some 68) rfl rfl (by kernel_rfl) (by kernel_rfl) (by kernel_rfl) (fun _ _ _ h => h) (.inl ⟨by kernel_rfl, fun w _ => by go_simp⟩) hS12 ?_
    refine takeH 41 (.bool true) (some 69) rfl rfl (by kernel_rfl) (by kernel_rfl) (by kernel_rfl) (fun _ _ _ h => h) (.inl ⟨by kernel_rfl, fun w _ => by go_simp⟩) hS12 ?_
    refine takeH 42 (.bool true) (some 70) rfl rfl (by kernel_rfl) (by kernel_rfl) (by kernel_rfl) (fun _ _ _ h => h) (.inl ⟨by kernel_rfl, fun w _ => by go_simp⟩) hS12 ?_
    refine takeH 43 (.bool true) (some 6) rfl rfl (by kernel_rfl) (by kernel_rfl) (by kernel_rfl) (fun _ _ _ h => h) (.inl ⟨by kernel_rfl, fun w _ => by go_simp⟩) hS12 ?_
    refine wpAnyH_done (by kernel_rfl) ?_ _
    go_simp
    go_wp2_with fail
    go_ret
    exact ⟨rfl, hB6.trans (hS12.mono hB6.size)⟩
  · subst he
    obtain ⟨x, hx⟩ : ∃ x, x = (0, 0) := ⟨_, rfl⟩
    rw [← hx]
    have HX := Lib.hid hx
    clear hx
    unfold labV
    have hB2 := bnext hB1 hb2
    have hob2 := bkeep hb2 hob1
    go_wp2_with fail
    have hB3 := bnewAfter hB2 (.cells #[.int .u8 x.1, .int .u16 x.2] 25)
    have hob3 := bkeep (bnew w2 (.cells #[.int .u8 x.1, .int .u16 x.2] 25)) hob2
    have hoc3 := heap_alloc_last w2 (.cells #[.int .u8 x.1, .int .u16 x.2] 25)
    clear hob1 hob2
    generalize w2.alloc (.cells #[.int .u8 x.1, .int .u16 x.2] 25) = w3 at *
    generalize w2.heap.size = g7 at *
    go_at_call 10
    refine (refOf_any l _ cs w3 (HZ.out.keep hB3) (by omega)).mono ?_
    rintro e w4 ⟨⟨hok', he⟩ | ⟨hno', he⟩, hb4⟩
    case inl => exact absurd hok' hno
    subst he
    rw [← HX.out]
    unfold labV
    have hB4 := hB3.trans (hb4.mono hB3.size)
    have hob4 := bkeep hb4 hob3
    have hoc4 := bkeep hb4 hoc3
    go_wp2_with fail
    have hB5 := bnewAfter hB4 (.cells #[.int .u8 x.1, .int .u16 x.2] 25)
    have hob5 := bkeep (bnew w4 (.cells #[.int .u8 x.1, .int .u16 x.2] 25)) hob4
    have hoc5 := bkeep (bnew w4 (.cells #[.int .u8 x.1, .int .u16 x.2] 25)) hoc4
    have hod5 := heap_alloc_last w4 (.cells #[.int .u8 x.1, .int .u16 x.2] 25)
    clear hob3 hoc3 hob4 hoc4
    generalize w4.alloc (.cells #[.int .u8 x.1, .int .u16 x.2] 25) = w6 at *
    generalize w4.heap.size = g9 at *
    have hB6 : Below W.heap.size W w6.drew := bdrewN hB5 1
    have hT6 : Tab w6.drew := hT.keep hB6
    have hSd : Below w6.heap.size w6.drew w6.drew := Below.refl _ _
    have hq5 : ∀ w', Below w6.heap.size w6.drew w' → ∀ o, w'.cell? ⟨W.heap.size, o, none⟩ = (#[.int .u8 p.1, .int .u16 p.2] : Array Value)[o]? := fun w' hb => rowcell (bkeep (w := w') (W := w6.drew) hb hob5)
    have hq7 : ∀ w', Below w6.heap.size w6.drew w' → ∀ o, w'.cell? ⟨g7, o, none⟩ = (#[.int .u8 x.1, .int .u16 x.2] : Array Value)[o]? := fun w' hb => rowcell (bkeep (w := w') (W := w6.drew) hb hoc5)
    have hq9 : ∀ w', Below w6.heap.size w6.drew w' → ∀ o, w'.cell? ⟨g9, o, none⟩ = (#[.int .u8 x.1, .int .u16 x.2] : Array Value)[o]? := fun w' hb => rowcell (bkeep (w := w') (W := w6.drew) hb hod5)
    have hw0 : IntKind.i64.wrap (p.1 : Int) = p.1 := by rw [IntKind.wrap_i64]; omega
    have hwr : IntKind.i64.wrap ((p.1 : Int) + ((catsL p.2).length : Int)) = ((p.1 + (catsL p.2).length : Nat) : Int) := by rw [IntKind.wrap_i64]; omega
    refine wp_region_held (S := fun w' => Below w6.heap.size w6.drew w') (by kernel_rfl) ?_
    change wpAnyH _ _ _ _ _ _ _ _ (World.drew _)
    have hxok : okL x := by rw [HX.out]; exact ⟨by simp, by simp⟩
    refine takeH 0 (.agg #[.int .u8 x.1, .int .u16 x.2]) (some 28) rfl rfl (by kernel_rfl) (by kernel_rfl) (by kernel_rfl) (fun _ _ _ h => h) (.inl ⟨by kernel_rfl, fun w hw => by have hc := hq7 w hw; go_simp⟩) hSd ?_
    refine takeH 1 (.agg #[.int .u8 x.1, .int .u16 x.2]) (some 29) rfl rfl (by kernel_rfl) (by kernel_rfl) (by kernel_rfl) (fun _ _ _ h => h) (.inl ⟨by kernel_rfl, fun w hw => by have hc := hq9 w hw; go_simp⟩) hSd ?_
    refine takeH 2 (.bool true) (some 30) rfl rfl (by kernel_rfl) (by kernel_rfl) (by kernel_rfl) (fun _ _ _ h => h) (.inl ⟨by kernel_rfl, fun w _ => exec_eql (xs := #[.int .u8 x.1, .int .u16 x.2]) (ys := #[.int .u8 x.1, .int .u16 x.2]) rfl (by go_simp) (by go_simp) (by kernel_rfl) (eqLab_same x hxok w)⟩) hSd ?_
    refine takeH 3 (.bool true) (some 31) rfl rfl (by kernel_rfl) (by kernel_rfl) (by kernel_rfl) (fun _ _ _ h => h) (.inl ⟨by kernel_rfl, fun w _ => by go_simp⟩) hSd ?_
    refine takeH 4 (.int .i64 27) (some 32) rfl rfl (by kernel_rfl) (by kernel_rfl) (by kernel_rfl) (fun _ _ _ h => h) (.inl ⟨by kernel_rfl, fun w _ => by go_simp⟩) hSd ?_
    refine takeH 5 (.bool false) (some 33) rfl rfl (by kernel_rfl) (by kernel_rfl) (by kernel_rfl) (fun _ _ _ h => h) (.inl ⟨by kernel_rfl, fun w _ => by go_simp⟩) hSd ?_
    refine takeH 6 (.bool false) (some 34) rfl rfl (by kernel_rfl) (by kernel_rfl) (by kernel_rfl) (fun _ _ _ h => h) (.inl ⟨by kernel_rfl, fun w _ => by go_simp⟩) hSd ?_
    refine takeH 7 (.bool true) (some 35) rfl rfl (by kernel_rfl) (by kernel_rfl) (by kernel_rfl) (fun _ _ _ h => h) (.inl ⟨by kernel_rfl, fun w _ => by go_simp⟩) hSd ?_
    refine takeH 8 (.bool true) (some 36) rfl rfl (by kernel_rfl) (by kernel_rfl) (by kernel_rfl) (fun _ _ _ h => h) (.inl ⟨by kernel_rfl, fun w _ => by go_simp⟩) hSd ?_
    refine takeH 9 (.bool true) (some 37) rfl rfl (by kernel_rfl) (by kernel_rfl) (by kernel_rfl) (fun _ _ _ h => h) (.inl ⟨by kernel_rfl, fun w _ => by go_simp⟩) hSd ?_
    refine takeH 10 (.bool false) (some 38) rfl rfl (by kernel_rfl) (by kernel_rfl) (by kernel_rfl) (fun _ _ _ h => h) (.inl ⟨by kernel_rfl, fun w _ => by go_simp⟩) hSd ?_
    refine takeH 11 (.bool false) (some 39) rfl rfl (by kernel_rfl) (by kernel_rfl) (by kernel_rfl) (fun _ _ _ h => h) (.inl ⟨by kernel_rfl, fun w _ => by go_simp⟩) hSd ?_
    refine takeH 12 (.int .i64 27) (some 40) rfl rfl (by kernel_rfl) (by kernel_rfl) (by kernel_rfl) (fun _ _ _ h => h) (.inl ⟨by kernel_rfl, fun w _ => by go_simp⟩) hSd ?_
    refine takeH 13 (.bool true) (some 41) rfl rfl (by kernel_rfl) (by kernel_rfl) (by kernel_rfl) (fun _ _ _ h => h) (.inl ⟨by kernel_rfl, fun w _ => by go_simp⟩) hSd ?_
    refine takeH 14 (.bool true) (some 42) rfl rfl (by kernel_rfl) (by kernel_rfl) (by kernel_rfl) (fun _ _ _ h => h) (.inl ⟨by kernel_rfl, fun w _ => by go_simp⟩) hSd ?_
    refine takeH 15 (.bool true) (some 43) rfl rfl (by kernel_rfl) (by kernel_rfl) (by kernel_rfl) (fun _ _ _ h => h) (.inl ⟨by kernel_rfl, fun w _ => by go_simp⟩) hSd ?_
    refine takeH 16 (.bool true) (some 44) rfl rfl (by kernel_rfl) (by kernel_rfl) (by kernel_rfl) (fun _ _ _ h => h) (.inl ⟨by kernel_rfl, fun w _ => by go_simp⟩) hSd ?_
    refine takeH 17 (.agg #[.int .u8 p.1, .int .u16 p.2]) (some 45) rfl rfl (by kernel_rfl) (by kernel_rfl) (by kernel_rfl) (fun _ _ _ h => h) (.inl ⟨by kernel_rfl, fun w hw => by have hc := hq5 w hw; go_simp⟩) hSd ?_
    refine takeH 19 (.pointer (some ⟨W.heap.size, 0, none⟩)) (some 47) rfl rfl (by kernel_rfl) (by kernel_rfl) (by kernel_rfl) (fun _ _ _ h => h) (.inl ⟨by kernel_rfl, fun w _ => by go_simp⟩) hSd ?_
    refine takeH 20 (.int .u8 p.1) (some 48) rfl rfl (by kernel_rfl) (by kernel_rfl) (by kernel_rfl) (fun _ _ _ h => h) (.inl ⟨by kernel_rfl, fun w hw => by have hc := hq5 w hw; go_simp⟩) hSd ?_
    refine takeH 21 (.bool (decide (p.1 ≤ 15))) (some 49) rfl rfl (by kernel_rfl) (by kernel_rfl) (by kernel_rfl) (fun _ _ _ h => h) (.inl ⟨by kernel_rfl, fun w _ => by go_simp; omega⟩) hSd ?_
    refine callH 18 rfl (by kernel_rfl) (by kernel_rfl) (some 46) rfl 11 #[.agg #[.int .u8 p.1, .int .u16 p.2]] ?hrun ((labValid_any p _).mono ?_)
    case hrun => go_simp
    rintro e w7 ⟨he, hb7⟩
    have hS7 : Below w6.heap.size w6.drew w7 := hSd.trans hb7
    refine ⟨_, he, hS7, ?_⟩
    refine takeH 22 (.bool true) (some 50) rfl rfl (by kernel_rfl) (by kernel_rfl) (by kernel_rfl) (fun _ _ _ h => h) (.inl ⟨by kernel_rfl, fun w _ => by go_simp⟩) hS7 ?_
    refine takeH 23 (.bool true) (some 51) rfl rfl (by kernel_rfl) (by kernel_rfl) (by kernel_rfl) (fun _ _ _ h => h) (.inl ⟨by kernel_rfl, fun w _ => by go_simp⟩) hS7 ?_
    refine takeH 24 (.bool true) (some 52) rfl rfl (by kernel_rfl) (by kernel_rfl) (by kernel_rfl) (fun _ _ _ h => h) (.inl ⟨by kernel_rfl, fun w _ => by go_simp⟩) hS7 ?_
    refine takeH 25 (.agg #[.int .u8 p.1, .int .u16 p.2]) (some 53) rfl rfl (by kernel_rfl) (by kernel_rfl) (by kernel_rfl) (fun _ _ _ h => h) (.inl ⟨by kernel_rfl, fun w hw => by have hc := hq5 w hw; go_simp⟩) hS7 ?_
    refine takeH 27 (.agg #[.int .u8 p.1, .int .u16 p.2]) (some 55) rfl rfl (by kernel_rfl) (by kernel_rfl) (by kernel_rfl) (fun _ _ _ h => h) (.inl ⟨by kernel_rfl, fun w hw => by have hc := hq5 w hw; go_simp⟩) hS7 ?_
    refine callH 26 rfl (by kernel_rfl) (by kernel_rfl) (some 54) rfl 13 #[.agg #[.int .u8 p.1, .int .u16 p.2]] ?hrun ((labCats_any p hp _ (hT6.keep hS7)).mono ?_)
    case hrun => go_simp
    rintro e w8 ⟨vc, he, hown8, hb8⟩
    have hS8 : Below w6.heap.size w6.drew w8 := hS7.trans (hb8.mono hS7.size)
    refine ⟨_, he, hS8, ?_⟩
    refine callH 28 rfl (by kernel_rfl) (by kernel_rfl) (some 56) rfl 14 #[.agg #[.int .u8 p.1, .int .u16 p.2]] ?hrun ((refCats_any p hp _).mono ?_)
    case hrun => go_simp
    rintro e w9 ⟨vd, he, hown9, hb9⟩
    have hS9 : Below w6.heap.size w6.drew w9 := hS8.trans (hb9.mono hS8.size)
    have hs8 := (SI.ofInts hown8 (catsL_lt p.2)).keep hb9
    have hs9 := SI.ofInts hown9 (catsL_lt p.2)
    refine ⟨_, he, hS9, ?_⟩
    refine callH 29 rfl (by kernel_rfl) (by kernel_rfl) (some 57) rfl 12 #[vc, vd] ?hrun ((sameInts_any vc vd _ _ hs8 hs9 (by rw [List.length_map]; omega)).mono ?_)
    case hrun => go_simp
    rintro e w10 ⟨he, hb10⟩
    have hS10 : Below w6.heap.size w6.drew w10 := hS9.trans (hb10.mono hS9.size)
    refine ⟨_, he, hS10, ?_⟩
    refine takeH 30 (.bool true) (some 58) rfl rfl (by kernel_rfl) (by kernel_rfl) (by kernel_rfl) (fun _ _ _ h => h) (.inl ⟨by kernel_rfl, fun w _ => by go_simp⟩) hS10 ?_
    refine takeH 31 (.bool true) (some 59) rfl rfl (by kernel_rfl) (by kernel_rfl) (by kernel_rfl) (fun _ _ _ h => h) (.inl ⟨by kernel_rfl, fun w _ => by go_simp⟩) hS10 ?_
    refine takeH 32 (.agg #[.int .u8 p.1, .int .u16 p.2]) (some 60) rfl rfl (by kernel_rfl) (by kernel_rfl) (by kernel_rfl) (fun _ _ _ h => h) (.inl ⟨by kernel_rfl, fun w hw => by have hc := hq5 w hw; go_simp⟩) hS10 ?_
    refine takeH 34 (.pointer (some ⟨W.heap.size, 0, none⟩)) (some 62) rfl rfl (by kernel_rfl) (by kernel_rfl) (by kernel_rfl) (fun _ _ _ h => h) (.inl ⟨by kernel_rfl, fun w _ => by go_simp⟩) hS10 ?_
    refine takeH 35 (.int .u8 p.1) (some 63) rfl rfl (by kernel_rfl) (by kernel_rfl) (by kernel_rfl) (fun _ _ _ h => h) (.inl ⟨by kernel_rfl, fun w hw => by have hc := hq5 w hw; go_simp⟩) hS10 ?_
    refine takeH 36 (.int .i64 p.1) (some 64) rfl rfl (by kernel_rfl) (by kernel_rfl) (by kernel_rfl) (fun _ _ _ h => h) (.inl ⟨by kernel_rfl, fun w _ => by go_simp⟩) hS10 ?_
    refine takeH 37 (.agg #[.int .u8 p.1, .int .u16 p.2]) (some 65) rfl rfl (by kernel_rfl) (by kernel_rfl) (by kernel_rfl) (fun _ _ _ h => h) (.inl ⟨by kernel_rfl, fun w hw => by have hc := hq5 w hw; go_simp⟩) hS10 ?_
    refine callH 33 rfl (by kernel_rfl) (by kernel_rfl) (some 61) rfl 15 #[.agg #[.int .u8 p.1, .int .u16 p.2]] ?hrun ((labRank_any p hp _).mono ?_)
    case hrun => go_simp
    rintro e w11 ⟨he, hb11⟩
    have hS11 : Below w6.heap.size w6.drew w11 := hS10.trans (hb11.mono hS10.size)
    refine ⟨_, he, hS11, ?_⟩
    refine callH 38 rfl (by kernel_rfl) (by kernel_rfl) (some 66) rfl 14 #[.agg #[.int .u8 p.1, .int .u16 p.2]] ?hrun ((refCats_any p hp _).mono ?_)
    case hrun => go_simp
    rintro e w12 ⟨ve, he, hown12, hb12⟩
    have hS12 : Below w6.heap.size w6.drew w12 := hS11.trans (hb12.mono hS11.size)
    obtain ⟨ade, ce, rfl⟩ := own_form hown12
    refine ⟨_, he, hS12, ?_⟩
    refine takeH 39 (.int .i64 ((catsL p.2).length : Nat)) (some 67) rfl rfl (by kernel_rfl) (by kernel_rfl) (by kernel_rfl) (fun _ _ _ h => h) (.inl ⟨by kernel_rfl, fun w _ => by go_simp⟩) hS12 ?_
    refine takeH 40 (.int .i64 ((p.1 + (catsL p.2).length : Nat) : Int)) (some 68) rfl rfl (by kernel_rfl) (by kernel_rfl) (by kernel_rfl) (fun _ _ _ h => h) (.inl ⟨by kernel_rfl, fun w _ => by go_simp⟩) hS12 ?_
    refine takeH 41 (.bool true) (some 69) rfl rfl (by kernel_rfl) (by kernel_rfl) (by kernel_rfl) (fun _ _ _ h => h) (.inl ⟨by kernel_rfl, fun w _ => by go_simp⟩) hS12 ?_
    refine takeH 42 (.bool true) (some 70) rfl rfl (by kernel_rfl) (by kernel_rfl) (by kernel_rfl) (fun _ _ _ h => h) (.inl ⟨by kernel_rfl, fun w _ => by go_simp⟩) hS12 ?_
    refine takeH 43 (.bool true) (some 6) rfl rfl (by kernel_rfl) (by kernel_rfl) (by kernel_rfl) (fun _ _ _ h => h) (.inl ⟨by kernel_rfl, fun w _ => by go_simp⟩) hS12 ?_
    refine wpAnyH_done (by kernel_rfl) ?_ _
    go_simp
    go_wp2_with fail
    go_ret
    exact ⟨rfl, hB6.trans (hS12.mono hB6.size)⟩
end Go.Proofs.YtcjnnonfnlemmaaDoor
