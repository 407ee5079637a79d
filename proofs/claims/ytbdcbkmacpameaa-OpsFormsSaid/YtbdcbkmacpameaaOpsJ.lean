/- The law OpsForms: the document's check, and the walk. -/
import Derived.Test.YtbdcbkmacpameaaOpsI
import Derived.Test.YtbdcbkmacpameaaRun
set_option linter.unusedVariables false
namespace Go.Proofs.Ytbdcbkmacpameaa
open Go.RowKit

set_option maxRecDepth 100000 in
set_option maxHeartbeats 4000000 in
theorem refCheck_any (o x y z : Int) (ho : 0 ≤ o ∧ o ≤ 255) (hx : 0 ≤ x ∧ x ≤ 255) (hy : 0 ≤ y ∧ y ≤ 255) (hz : 0 ≤ z ∧ z ≤ 255) (w : World) :
    Calls Try.prog 51 #[.agg #[.int .u8 o, .int .u8 x, .int .u8 y, .int .u8 z]] w fun e w' => e = .returned (.int .i64 (checkI (formOf o.toNat) x y z)) ∧ Below w.heap.size w w' := by
  have HC : Hid (∀ w, Calls Try.prog 48 #[.int .i64 o] w fun e w' => e = .returned (.int .i64 (if formOf o.toNat < 9 then (formOf o.toNat : Int) else -1)) ∧ Below w.heap.size w w') := by
    refine Lib.hid fun w => ?_
    by_cases h : 1 ≤ o ∧ o ≤ 39
    · refine (refForm_in o h.1 h.2 w).mono fun e w' hh => ⟨?_, hh.2⟩
      rw [hh.1, if_pos (by have := formOf_le o.toNat (by omega) (by omega); omega)]
    · refine (refForm_out o (by omega) w).mono fun e w' hh => ⟨?_, by rw [← hh.2]; exact Below.refl _ _⟩
      have : formOf o.toNat = 9 := by
        by_cases h0 : o = 0
        · subst h0; rfl
        · exact formOf_hi _ (by omega)
      rw [hh.1, this]; rfl
  have hf : formOf o.toNat ≤ 9 := by
    rcases Nat.lt_or_ge o.toNat 40 with h | h
    · exact (by decide : ∀ n, n < 40 → formOf n ≤ 9) _ h
    · rw [formOf_hi _ h]; omega
  obtain ⟨ho0, ho1⟩ := ho
  obtain ⟨hx0, hx1⟩ := hx
  obtain ⟨hy0, hy1⟩ := hy
  obtain ⟨hz0, hz1⟩ := hz
  generalize hfe : formOf o.toNat = f at hf HC ⊢
  clear hfe
  have hc : f = 0 ∨ f = 1 ∨ f = 2 ∨ f = 3 ∨ f = 4 ∨ f = 5 ∨ f = 6 ∨ f = 7 ∨ f = 8 ∨ f = 9 := by omega
  go_enter Try.func51, Try.ntmps51
  go_wp2
  go_quiet (fail)
  rcases hc with rfl | rfl | rfl | rfl | rfl | rfl | rfl | rfl | rfl | rfl
  all_goals
    go_wp2_with (first
      | (go_at_call 48; refine (HC.out _).mono ?_; rintro e w1 ⟨rfl, hb1⟩; have B1 := bkeep hb1 (heap_alloc_last w _); have C1 := rowcell B1))
  all_goals clear HC
  all_goals
    go_ret
    refine ⟨ret_int ?_, bnext (bdrewN (bnew w _) _) hb1⟩
  all_goals simp only [checkI, checkOk, Bool.not_eq_true', Bool.not_eq_false', Bool.and_eq_true, Bool.or_eq_true, decide_eq_true_eq, decide_eq_false_iff_not, beq_iff_eq, beq_eq_false_iff_ne, ne_eq] at *
  all_goals simp [*] <;> omega

theorem named_of (o : Nat) (h0 : 1 ≤ o) (h1 : o < 40) : IsNamed (opName o) o :=
  .inl ⟨h0, h1, rfl, (by decide +kernel : ∀ o, o < 40 → 1 ≤ o → ∀ j, j < o → 1 ≤ j → opName j ≠ opName o) o h1 h0 |> fun h j a b => h j b a⟩
theorem named_none : IsNamed ByteArray.empty 0 := .inr ⟨rfl, fun j h1 h2 => (by decide +kernel : ∀ j, j < 40 → 1 ≤ j → opName j ≠ ByteArray.empty) j h2 h1⟩

theorem instr_is {W : World} {v : Value} (o : Arg Try.prog W 33 v) : ∃ a b c d : Int, v = .agg #[.int .u8 a, .int .u8 b, .int .u8 c, .int .u8 d] ∧ (0 ≤ a ∧ a ≤ 255) ∧ (0 ≤ b ∧ b ≤ 255) ∧ (0 ≤ c ∧ c ≤ 255) ∧ (0 ≤ d ∧ d ≤ 255) := by
  obtain ⟨cs, rfl, h⟩ := Arg.flat (.inl ⟨_, Try.underlying33⟩) 4 (ks := [⟨0, .u8, 0⟩, ⟨0, .u8, 0⟩, ⟨0, .u8, 0⟩, ⟨0, .u8, 0⟩]) (by kernel_rfl) o
  obtain ⟨_, _, rfl, ⟨a, rfl, ha⟩, h1⟩ := FitsAll.cons h
  obtain ⟨_, _, rfl, ⟨b, rfl, hb⟩, h2⟩ := FitsAll.cons h1
  obtain ⟨_, _, rfl, ⟨c, rfl, hc⟩, h3⟩ := FitsAll.cons h2
  obtain ⟨_, _, rfl, ⟨d, rfl, hd⟩, h4⟩ := FitsAll.cons h3
  obtain rfl := FitsAll.nil h4
  exact ⟨a, b, c, d, rfl, wf_u8 ha, wf_u8 hb, wf_u8 hc, wf_u8 hd⟩

set_option maxRecDepth 100000 in
set_option maxHeartbeats 4000000 in
theorem opsForms_lo (W : World) (k f : Nat) (x y z c : Int) (nm : ByteArray) (hk0 : 1 ≤ k) (hk1 : k < 40) (hf : f ≤ 8) (hn : nameVals[k]? = some (.string nm))
    (hOf : ∀ w, Calls Try.prog 47 #[.int .u8 k] w fun e w' => e = .returned (.tuple #[.int .u8 f, .bool true]) ∧ Below w.heap.size w w')
    (hForm : ∀ w, Calls Try.prog 48 #[.int .i64 k] w fun e w' => e = .returned (.int .i64 f) ∧ Below w.heap.size w w')
    (hNamed : ∀ w, Calls Try.prog 16 #[.string nm] w fun e w' => e = .returned (.tuple #[.int .u8 k, .bool true]) ∧ Below w.heap.size w w')
    (hName : ∀ w, Calls Try.prog 18 #[.int .u8 k] w fun e w' => e = .returned (.string nm) ∧ Below w.heap.size w w')
    (hChk : ∀ w, Calls Try.prog 50 #[.agg #[.int .u8 k, .int .u8 x, .int .u8 y, .int .u8 z]] w fun e w' => e = .returned (.int .i64 c) ∧ Below w.heap.size w w')
    (hRef : ∀ w, Calls Try.prog 51 #[.agg #[.int .u8 k, .int .u8 x, .int .u8 y, .int .u8 z]] w fun e w' => e = .returned (.int .i64 c) ∧ Below w.heap.size w w') :
    Calls Try.prog 14 #[.agg #[.int .u8 k, .int .u8 x, .int .u8 y, .int .u8 z]] W fun e w' => e = .returned (.bool true) ∧ Below W.heap.size W w' := by
  have f0 : (0 : Int) ≤ f := by omega
  have f1 : (f : Int) ≤ 8 := by omega
  have k0 : (0 : Int) ≤ k := by omega
  have hwr : IntKind.i64.wrap (f : Int) = f := IntWalk.i64_in _ (by omega)
  have k1 : (k : Int) < 40 := by omega
  go_enter Try.func14, Try.ntmps14
  go_wp2_with fail
  go_at_call 15; refine (opsAwake_any _).mono ?_; rintro e w1 ⟨rfl, hb1⟩
  have B1 := bkeep hb1 (heap_alloc_last W _)
  have C1 := rowcell B1
  go_wp2_with fail
  go_at_call 47; refine (hOf _).mono ?_; rintro e w2 ⟨rfl, hb2⟩
  have B2 := bkeep hb2 B1
  have C2 := rowcell B2
  clear C1
  go_wp2_with fail
  go_at_call 48; refine (hForm _).mono ?_; rintro e w3 ⟨rfl, hb3⟩
  have B3 := bkeep hb3 B2
  have C3 := rowcell B3
  clear C2
  have hB3 := bnext (bnext (bnext (bnew W (.cells #[.int .u8 k, .int .u8 x, .int .u8 y, .int .u8 z] 33)) hb1) hb2) hb3
  go_wp2_with fail
  refine wp_region_held (S := fun w' => w'.cell? ⟨W.heap.size, 0, none⟩ = some (.int .u8 k)) (by kernel_rfl) ?_
  change wpAnyH _ _ _ _ _ _ _ _ (World.drew _)
  have hc0 : w3.drew.cell? ⟨W.heap.size, 0, none⟩ = some (.int .u8 k) := C3 0
  refine takeH 1 (.pointer (some ⟨W.heap.size, 0, none⟩)) (some 24) rfl rfl (by kernel_rfl) (by kernel_rfl) (by kernel_rfl) (fun _ _ _ h => h) (.inl ⟨by kernel_rfl, fun w _ => by go_simp⟩) hc0 ?_
  refine takeH 2 (.int .u8 k) (some 25) rfl rfl (by kernel_rfl) (by kernel_rfl) (by kernel_rfl) (fun _ _ _ h => h) (.inl ⟨by kernel_rfl, fun w hw => by have hc := (fun (w : World) (h : w.cell? ⟨W.heap.size, 0, none⟩ = some (.int .u8 k)) => h) w hw; go_simp⟩) hc0 ?_
  refine callH 0 rfl (by kernel_rfl) (by kernel_rfl) (some 23) rfl 49 #[] ?hrun ((refNames_any _).mono ?_)
  case hrun => go_simp
  rintro e w5 ⟨he, hw5⟩
  have hw5' : w5.heap[w3.heap.size]? = some (.cells nameVals 9) := by rw [← hw5]; exact heap_alloc_last w3.drew _
  have hb5 : Below w3.heap.size w3 w5 := by rw [← hw5]; exact bnext (drewb w3) (bnew w3.drew _)
  have hc5 : w5.cell? ⟨W.heap.size, 0, none⟩ = some (.int .u8 k) := rowcell (bkeep hb5 B3) 0
  have C5 := rowcell hw5'
  have hsz : w3.drew.heap.size = w3.heap.size := rfl
  rw [hsz] at he
  clear hw5
  refine ⟨_, he, hc5, ?_⟩
  refine runH 3 (.pointer (some ⟨w3.heap.size, k, none⟩)) (some 26) rfl (by kernel_rfl) (by kernel_rfl) rfl (by go_simp) hc5 ?_
  refine runH 4 (.string nm) (some 27) rfl (by kernel_rfl) (by kernel_rfl) rfl (by go_simp) hc5 ?_
  refine runH 5 (.string nm) (some 6) rfl (by kernel_rfl) (by kernel_rfl) rfl (by go_simp) hc5 ?_
  refine wpAnyH_done (by kernel_rfl) ?_ _
  go_simp
  have B5 := bkeep hb5 B3
  have hB5 := bnext hB3 hb5
  clear C3 C5 hc5 hc0
  go_wp2_with fail
  go_at_call 16; refine (hNamed _).mono ?_; rintro e w4 ⟨rfl, hb4⟩
  have B4 := bkeep hb4 B5
  have hB4 := bnext hB5 hb4
  clear hb5 hb1 hb2 hb3 hb4
  have hSd : Below w4.heap.size w4.drew w4.drew := Below.refl _ _
  have hq : ∀ w', Below w4.heap.size w4.drew w' → ∀ o, w'.cell? ⟨W.heap.size, o, none⟩ = (#[.int .u8 k, .int .u8 x, .int .u8 y, .int .u8 z] : Array Value)[o]? := fun w' hb => rowcell (bkeep (w := w') (W := w4.drew) hb B4)
  go_wp2_with fail
  refine wp_region_held (S := fun w' => Below w4.heap.size w4.drew w') (by kernel_rfl) ?_
  change wpAnyH _ _ _ _ _ _ _ _ (World.drew _)
  refine takeH 0 (.bool true) (some 33) rfl rfl (by kernel_rfl) (by kernel_rfl) (by kernel_rfl) (fun _ _ _ h => h) (.inl ⟨by kernel_rfl, fun w _ => by go_simp⟩) hSd ?_
  refine takeH 1 (.int .i64 f) (some 34) rfl rfl (by kernel_rfl) (by kernel_rfl) (by kernel_rfl) (fun _ _ _ h => h) (.inl ⟨by kernel_rfl, fun w _ => by go_simp⟩) hSd ?_
  refine takeH 2 (.bool true) (some 35) rfl rfl (by kernel_rfl) (by kernel_rfl) (by kernel_rfl) (fun _ _ _ h => h) (.inl ⟨by kernel_rfl, fun w _ => by go_simp⟩) hSd ?_
  refine takeH 3 (.bool true) (some 36) rfl rfl (by kernel_rfl) (by kernel_rfl) (by kernel_rfl) (fun _ _ _ h => h) (.inl ⟨by kernel_rfl, fun w _ => by go_simp⟩) hSd ?_
  refine takeH 4 (.bool true) (some 37) rfl rfl (by kernel_rfl) (by kernel_rfl) (by kernel_rfl) (fun _ _ _ h => h) (.inl ⟨by kernel_rfl, fun w _ => by go_simp⟩) hSd ?_
  refine takeH 5 (.int .u8 f) (some 38) rfl rfl (by kernel_rfl) (by kernel_rfl) (by kernel_rfl) (fun _ _ _ h => h) (.inl ⟨by kernel_rfl, fun w _ => by go_simp⟩) hSd ?_
  refine takeH 6 (.int .i64 f) (some 39) rfl rfl (by kernel_rfl) (by kernel_rfl) (by kernel_rfl) (fun _ _ _ h => h) (.inl ⟨by kernel_rfl, fun w _ => by go_simp; try exact hwr⟩) hSd ?_
  refine takeH 7 (.int .i64 f) (some 40) rfl rfl (by kernel_rfl) (by kernel_rfl) (by kernel_rfl) (fun _ _ _ h => h) (.inl ⟨by kernel_rfl, fun w _ => by go_simp⟩) hSd ?_
  refine takeH 8 (.int .i64 f) (some 41) rfl rfl (by kernel_rfl) (by kernel_rfl) (by kernel_rfl) (fun _ _ _ h => h) (.inl ⟨by kernel_rfl, fun w _ => by go_simp; try omega⟩) hSd ?_
  refine takeH 9 (.bool true) (some 42) rfl rfl (by kernel_rfl) (by kernel_rfl) (by kernel_rfl) (fun _ _ _ h => h) (.inl ⟨by kernel_rfl, fun w _ => by go_simp⟩) hSd ?_
  refine takeH 10 (.bool true) (some 43) rfl rfl (by kernel_rfl) (by kernel_rfl) (by kernel_rfl) (fun _ _ _ h => h) (.inl ⟨by kernel_rfl, fun w _ => by go_simp⟩) hSd ?_
  refine takeH 11 (.bool true) (some 44) rfl rfl (by kernel_rfl) (by kernel_rfl) (by kernel_rfl) (fun _ _ _ h => h) (.inl ⟨by kernel_rfl, fun w _ => by go_simp⟩) hSd ?_
  refine takeH 12 (.agg #[.int .u8 k, .int .u8 x, .int .u8 y, .int .u8 z]) (some 45) rfl rfl (by kernel_rfl) (by kernel_rfl) (by kernel_rfl) (fun _ _ _ h => h) (.inl ⟨by kernel_rfl, fun w hw => by have hc := hq w hw; go_simp⟩) hSd ?_
  refine takeH 14 (.agg #[.int .u8 k, .int .u8 x, .int .u8 y, .int .u8 z]) (some 47) rfl rfl (by kernel_rfl) (by kernel_rfl) (by kernel_rfl) (fun _ _ _ h => h) (.inl ⟨by kernel_rfl, fun w hw => by have hc := hq w hw; go_simp⟩) hSd ?_
  refine callH 13 rfl (by kernel_rfl) (by kernel_rfl) (some 46) rfl 50 #[.agg #[.int .u8 k, .int .u8 x, .int .u8 y, .int .u8 z]] ?hrun ((hChk _).mono ?_)
  case hrun => go_simp
  rintro e w8 ⟨he, hbw8⟩
  have hSw8 : Below w4.heap.size w4.drew w8 := hSd.trans (hbw8.mono hSd.size)
  refine ⟨_, he, hSw8, ?_⟩
  refine callH 15 rfl (by kernel_rfl) (by kernel_rfl) (some 48) rfl 51 #[.agg #[.int .u8 k, .int .u8 x, .int .u8 y, .int .u8 z]] ?hrun ((hRef _).mono ?_)
  case hrun => go_simp
  rintro e w6 ⟨he, hbw6⟩
  have hSw6 : Below w4.heap.size w4.drew w6 := hSw8.trans (hbw6.mono hSw8.size)
  refine ⟨_, he, hSw6, ?_⟩
  refine takeH 16 (.bool true) (some 49) rfl rfl (by kernel_rfl) (by kernel_rfl) (by kernel_rfl) (fun _ _ _ h => h) (.inl ⟨by kernel_rfl, fun w _ => by go_simp⟩) hSw6 ?_
  refine takeH 17 (.bool true) (some 50) rfl rfl (by kernel_rfl) (by kernel_rfl) (by kernel_rfl) (fun _ _ _ h => h) (.inl ⟨by kernel_rfl, fun w _ => by go_simp⟩) hSw6 ?_
  refine takeH 18 (.bool true) (some 51) rfl rfl (by kernel_rfl) (by kernel_rfl) (by kernel_rfl) (fun _ _ _ h => h) (.inl ⟨by kernel_rfl, fun w _ => by go_simp⟩) hSw6 ?_
  refine takeH 19 (.pointer (some ⟨W.heap.size, 0, none⟩)) (some 52) rfl rfl (by kernel_rfl) (by kernel_rfl) (by kernel_rfl) (fun _ _ _ h => h) (.inl ⟨by kernel_rfl, fun w _ => by go_simp⟩) hSw6 ?_
  refine takeH 20 (.int .u8 k) (some 53) rfl rfl (by kernel_rfl) (by kernel_rfl) (by kernel_rfl) (fun _ _ _ h => h) (.inl ⟨by kernel_rfl, fun w hw => by have hc := hq w hw; go_simp⟩) hSw6 ?_
  refine takeH 22 (.string nm) (some 55) rfl rfl (by kernel_rfl) (by kernel_rfl) (by kernel_rfl) (fun _ _ _ h => h) (.inl ⟨by kernel_rfl, fun w _ => by go_simp⟩) hSw6 ?_
  refine callH 21 rfl (by kernel_rfl) (by kernel_rfl) (some 54) rfl 18 #[.int .u8 k] ?hrun ((hName _).mono ?_)
  case hrun => go_simp
  rintro e w7 ⟨he, hbw7⟩
  have hSw7 : Below w4.heap.size w4.drew w7 := hSw6.trans (hbw7.mono hSw6.size)
  refine ⟨_, he, hSw7, ?_⟩
  refine takeH 23 (.bool true) (some 56) rfl rfl (by kernel_rfl) (by kernel_rfl) (by kernel_rfl) (fun _ _ _ h => h) (.inl ⟨by kernel_rfl, fun w _ => by go_simp⟩) hSw7 ?_
  refine takeH 24 (.bool true) (some 57) rfl rfl (by kernel_rfl) (by kernel_rfl) (by kernel_rfl) (fun _ _ _ h => h) (.inl ⟨by kernel_rfl, fun w _ => by go_simp⟩) hSw7 ?_
  refine takeH 25 (.bool true) (some 58) rfl rfl (by kernel_rfl) (by kernel_rfl) (by kernel_rfl) (fun _ _ _ h => h) (.inl ⟨by kernel_rfl, fun w _ => by go_simp⟩) hSw7 ?_
  refine takeH 26 (.bool true) (some 59) rfl rfl (by kernel_rfl) (by kernel_rfl) (by kernel_rfl) (fun _ _ _ h => h) (.inl ⟨by kernel_rfl, fun w _ => by go_simp⟩) hSw7 ?_
  refine takeH 27 (.bool true) (some 60) rfl rfl (by kernel_rfl) (by kernel_rfl) (by kernel_rfl) (fun _ _ _ h => h) (.inl ⟨by kernel_rfl, fun w _ => by go_simp⟩) hSw7 ?_
  refine takeH 28 (.bool true) (some 61) rfl rfl (by kernel_rfl) (by kernel_rfl) (by kernel_rfl) (fun _ _ _ h => h) (.inl ⟨by kernel_rfl, fun w _ => by go_simp⟩) hSw7 ?_
  refine takeH 29 (.bool true) (some 62) rfl rfl (by kernel_rfl) (by kernel_rfl) (by kernel_rfl) (fun _ _ _ h => h) (.inl ⟨by kernel_rfl, fun w _ => by go_simp⟩) hSw7 ?_
  refine takeH 30 (.bool true) (some 63) rfl rfl (by kernel_rfl) (by kernel_rfl) (by kernel_rfl) (fun _ _ _ h => h) (.inl ⟨by kernel_rfl, fun w _ => by go_simp⟩) hSw7 ?_
  refine takeH 31 (.bool true) (some 64) rfl rfl (by kernel_rfl) (by kernel_rfl) (by kernel_rfl) (fun _ _ _ h => h) (.inl ⟨by kernel_rfl, fun w _ => by go_simp⟩) hSw7 ?_
  refine takeH 32 (.bool false) (some 65) rfl rfl (by kernel_rfl) (by kernel_rfl) (by kernel_rfl) (fun _ _ _ h => h) (.inl ⟨by kernel_rfl, fun w _ => by go_simp⟩) hSw7 ?_
  refine takeH 33 (.bool false) (some 66) rfl rfl (by kernel_rfl) (by kernel_rfl) (by kernel_rfl) (fun _ _ _ h => h) (.inl ⟨by kernel_rfl, fun w _ => by go_simp⟩) hSw7 ?_
  refine takeH 34 (.int .u8 k) (some 67) rfl rfl (by kernel_rfl) (by kernel_rfl) (by kernel_rfl) (fun _ _ _ h => h) (.inl ⟨by kernel_rfl, fun w _ => by go_simp⟩) hSw7 ?_
  refine takeH 35 (.pointer (some ⟨W.heap.size, 0, none⟩)) (some 68) rfl rfl (by kernel_rfl) (by kernel_rfl) (by kernel_rfl) (fun _ _ _ h => h) (.inl ⟨by kernel_rfl, fun w _ => by go_simp⟩) hSw7 ?_
  refine takeH 36 (.int .u8 k) (some 69) rfl rfl (by kernel_rfl) (by kernel_rfl) (by kernel_rfl) (fun _ _ _ h => h) (.inl ⟨by kernel_rfl, fun w hw => by have hc := hq w hw; go_simp⟩) hSw7 ?_
  refine takeH 37 (.bool true) (some 70) rfl rfl (by kernel_rfl) (by kernel_rfl) (by kernel_rfl) (fun _ _ _ h => h) (.inl ⟨by kernel_rfl, fun w _ => by go_simp⟩) hSw7 ?_
  refine takeH 38 (.bool true) (some 71) rfl rfl (by kernel_rfl) (by kernel_rfl) (by kernel_rfl) (fun _ _ _ h => h) (.inl ⟨by kernel_rfl, fun w _ => by go_simp⟩) hSw7 ?_
  refine takeH 39 (.bool true) (some 72) rfl rfl (by kernel_rfl) (by kernel_rfl) (by kernel_rfl) (fun _ _ _ h => h) (.inl ⟨by kernel_rfl, fun w _ => by go_simp⟩) hSw7 ?_
  refine takeH 40 (.bool true) (some 2) rfl rfl (by kernel_rfl) (by kernel_rfl) (by kernel_rfl) (fun _ _ _ h => h) (.inl ⟨by kernel_rfl, fun w _ => by go_simp⟩) hSw7 ?_
  refine wpAnyH_done (by kernel_rfl) ?_ _
  go_simp
  go_wp2_with fail
  go_ret
  exact ⟨rfl, (bdrawn hB4).trans (hSw7.mono hB4.size)⟩

set_option maxRecDepth 100000 in
set_option maxHeartbeats 4000000 in
theorem opsForms_hi (W : World) (k : Nat) (x y z c : Int) (hk : k ≤ 255)
    (hOf : ∀ w, Calls Try.prog 47 #[.int .u8 k] w fun e w' => e = .returned (.tuple #[.int .u8 0, .bool false]) ∧ Below w.heap.size w w')
    (hForm : ∀ w, Calls Try.prog 48 #[.int .i64 k] w fun e w' => e = .returned (.int .i64 (-1)) ∧ Below w.heap.size w w')
    (hNamed : ∀ w, Calls Try.prog 16 #[.string ByteArray.empty] w fun e w' => e = .returned (.tuple #[.int .u8 0, .bool false]) ∧ Below w.heap.size w w')
    (hName : ∀ w, Calls Try.prog 18 #[.int .u8 k] w fun e w' => e = .returned (.string ByteArray.empty) ∧ Below w.heap.size w w')
    (hChk : ∀ w, Calls Try.prog 50 #[.agg #[.int .u8 k, .int .u8 x, .int .u8 y, .int .u8 z]] w fun e w' => e = .returned (.int .i64 c) ∧ Below w.heap.size w w')
    (hRef : ∀ w, Calls Try.prog 51 #[.agg #[.int .u8 k, .int .u8 x, .int .u8 y, .int .u8 z]] w fun e w' => e = .returned (.int .i64 c) ∧ Below w.heap.size w w') :
    Calls Try.prog 14 #[.agg #[.int .u8 k, .int .u8 x, .int .u8 y, .int .u8 z]] W fun e w' => e = .returned (.bool true) ∧ Below W.heap.size W w' := by
  go_enter Try.func14, Try.ntmps14
  go_wp2_with fail
  go_at_call 15; refine (opsAwake_any _).mono ?_; rintro e w1 ⟨rfl, hb1⟩
  have B1 := bkeep hb1 (heap_alloc_last W _)
  have C1 := rowcell B1
  go_wp2_with fail
  go_at_call 47; refine (hOf _).mono ?_; rintro e w2 ⟨rfl, hb2⟩
  have B2 := bkeep hb2 B1
  have C2 := rowcell B2
  clear C1
  go_wp2_with fail
  go_at_call 48; refine (hForm _).mono ?_; rintro e w3 ⟨rfl, hb3⟩
  have B3 := bkeep hb3 B2
  have C3 := rowcell B3
  clear C2
  have hB3 := bnext (bnext (bnext (bnew W (.cells #[.int .u8 k, .int .u8 x, .int .u8 y, .int .u8 z] 33)) hb1) hb2) hb3
  go_wp2_with fail
  go_at_call 16; refine (hNamed _).mono ?_; rintro e w4 ⟨rfl, hb4⟩
  have B4 := bkeep hb4 B3
  have hB4 := bnext hB3 hb4
  clear C3 hb1 hb2 hb3 hb4
  have hSd : Below w4.heap.size w4.drew w4.drew := Below.refl _ _
  have hq : ∀ w', Below w4.heap.size w4.drew w' → ∀ o, w'.cell? ⟨W.heap.size, o, none⟩ = (#[.int .u8 k, .int .u8 x, .int .u8 y, .int .u8 z] : Array Value)[o]? := fun w' hb => rowcell (bkeep (w := w') (W := w4.drew) hb B4)
  go_wp2_with fail
  refine wp_region_held (S := fun w' => Below w4.heap.size w4.drew w') (by kernel_rfl) ?_
  change wpAnyH _ _ _ _ _ _ _ _ (World.drew _)
  refine takeH 0 (.bool false) (some 33) rfl rfl (by kernel_rfl) (by kernel_rfl) (by kernel_rfl) (fun _ _ _ h => h) (.inl ⟨by kernel_rfl, fun w _ => by go_simp⟩) hSd ?_
  refine takeH 1 (.int .i64 (-1)) (some 34) rfl rfl (by kernel_rfl) (by kernel_rfl) (by kernel_rfl) (fun _ _ _ h => h) (.inl ⟨by kernel_rfl, fun w _ => by go_simp⟩) hSd ?_
  refine takeH 2 (.bool false) (some 35) rfl rfl (by kernel_rfl) (by kernel_rfl) (by kernel_rfl) (fun _ _ _ h => h) (.inl ⟨by kernel_rfl, fun w _ => by go_simp⟩) hSd ?_
  refine takeH 3 (.bool true) (some 36) rfl rfl (by kernel_rfl) (by kernel_rfl) (by kernel_rfl) (fun _ _ _ h => h) (.inl ⟨by kernel_rfl, fun w _ => by go_simp⟩) hSd ?_
  refine takeH 4 (.bool true) (some 37) rfl rfl (by kernel_rfl) (by kernel_rfl) (by kernel_rfl) (fun _ _ _ h => h) (.inl ⟨by kernel_rfl, fun w _ => by go_simp⟩) hSd ?_
  refine takeH 5 (.int .u8 0) (some 38) rfl rfl (by kernel_rfl) (by kernel_rfl) (by kernel_rfl) (fun _ _ _ h => h) (.inl ⟨by kernel_rfl, fun w _ => by go_simp⟩) hSd ?_
  refine takeH 6 (.int .i64 0) (some 39) rfl rfl (by kernel_rfl) (by kernel_rfl) (by kernel_rfl) (fun _ _ _ h => h) (.inl ⟨by kernel_rfl, fun w _ => by go_simp; try rfl⟩) hSd ?_
  refine takeH 7 (.int .i64 (-1)) (some 40) rfl rfl (by kernel_rfl) (by kernel_rfl) (by kernel_rfl) (fun _ _ _ h => h) (.inl ⟨by kernel_rfl, fun w _ => by go_simp⟩) hSd ?_
  refine takeH 8 (.int .i64 0) (some 41) rfl rfl (by kernel_rfl) (by kernel_rfl) (by kernel_rfl) (fun _ _ _ h => h) (.inl ⟨by kernel_rfl, fun w _ => by go_simp; try omega⟩) hSd ?_
  refine takeH 9 (.bool true) (some 42) rfl rfl (by kernel_rfl) (by kernel_rfl) (by kernel_rfl) (fun _ _ _ h => h) (.inl ⟨by kernel_rfl, fun w _ => by go_simp⟩) hSd ?_
  refine takeH 10 (.bool true) (some 43) rfl rfl (by kernel_rfl) (by kernel_rfl) (by kernel_rfl) (fun _ _ _ h => h) (.inl ⟨by kernel_rfl, fun w _ => by go_simp⟩) hSd ?_
  refine takeH 11 (.bool true) (some 44) rfl rfl (by kernel_rfl) (by kernel_rfl) (by kernel_rfl) (fun _ _ _ h => h) (.inl ⟨by kernel_rfl, fun w _ => by go_simp⟩) hSd ?_
  refine takeH 12 (.agg #[.int .u8 k, .int .u8 x, .int .u8 y, .int .u8 z]) (some 45) rfl rfl (by kernel_rfl) (by kernel_rfl) (by kernel_rfl) (fun _ _ _ h => h) (.inl ⟨by kernel_rfl, fun w hw => by have hc := hq w hw; go_simp⟩) hSd ?_
  refine takeH 14 (.agg #[.int .u8 k, .int .u8 x, .int .u8 y, .int .u8 z]) (some 47) rfl rfl (by kernel_rfl) (by kernel_rfl) (by kernel_rfl) (fun _ _ _ h => h) (.inl ⟨by kernel_rfl, fun w hw => by have hc := hq w hw; go_simp⟩) hSd ?_
  refine callH 13 rfl (by kernel_rfl) (by kernel_rfl) (some 46) rfl 50 #[.agg #[.int .u8 k, .int .u8 x, .int .u8 y, .int .u8 z]] ?hrun ((hChk _).mono ?_)
  case hrun => go_simp
  rintro e w8 ⟨he, hbw8⟩
  have hSw8 : Below w4.heap.size w4.drew w8 := hSd.trans (hbw8.mono hSd.size)
  refine ⟨_, he, hSw8, ?_⟩
  refine callH 15 rfl (by kernel_rfl) (by kernel_rfl) (some 48) rfl 51 #[.agg #[.int .u8 k, .int .u8 x, .int .u8 y, .int .u8 z]] ?hrun ((hRef _).mono ?_)
  case hrun => go_simp
  rintro e w6 ⟨he, hbw6⟩
  have hSw6 : Below w4.heap.size w4.drew w6 := hSw8.trans (hbw6.mono hSw8.size)
  refine ⟨_, he, hSw6, ?_⟩
  refine takeH 16 (.bool true) (some 49) rfl rfl (by kernel_rfl) (by kernel_rfl) (by kernel_rfl) (fun _ _ _ h => h) (.inl ⟨by kernel_rfl, fun w _ => by go_simp⟩) hSw6 ?_
  refine takeH 17 (.bool true) (some 50) rfl rfl (by kernel_rfl) (by kernel_rfl) (by kernel_rfl) (fun _ _ _ h => h) (.inl ⟨by kernel_rfl, fun w _ => by go_simp⟩) hSw6 ?_
  refine takeH 18 (.bool true) (some 51) rfl rfl (by kernel_rfl) (by kernel_rfl) (by kernel_rfl) (fun _ _ _ h => h) (.inl ⟨by kernel_rfl, fun w _ => by go_simp⟩) hSw6 ?_
  refine takeH 19 (.pointer (some ⟨W.heap.size, 0, none⟩)) (some 52) rfl rfl (by kernel_rfl) (by kernel_rfl) (by kernel_rfl) (fun _ _ _ h => h) (.inl ⟨by kernel_rfl, fun w _ => by go_simp⟩) hSw6 ?_
  refine takeH 20 (.int .u8 k) (some 53) rfl rfl (by kernel_rfl) (by kernel_rfl) (by kernel_rfl) (fun _ _ _ h => h) (.inl ⟨by kernel_rfl, fun w hw => by have hc := hq w hw; go_simp⟩) hSw6 ?_
  refine takeH 22 (.string ⟨#[]⟩) (some 55) rfl rfl (by kernel_rfl) (by kernel_rfl) (by kernel_rfl) (fun _ _ _ h => h) (.inl ⟨by kernel_rfl, fun w _ => by go_simp⟩) hSw6 ?_
  refine callH 21 rfl (by kernel_rfl) (by kernel_rfl) (some 54) rfl 18 #[.int .u8 k] ?hrun ((hName _).mono ?_)
  case hrun => go_simp
  rintro e w7 ⟨he, hbw7⟩
  have hSw7 : Below w4.heap.size w4.drew w7 := hSw6.trans (hbw7.mono hSw6.size)
  refine ⟨_, he, hSw7, ?_⟩
  refine takeH 23 (.bool true) (some 56) rfl rfl (by kernel_rfl) (by kernel_rfl) (by kernel_rfl) (fun _ _ _ h => h) (.inl ⟨by kernel_rfl, fun w _ => by go_simp; try rfl⟩) hSw7 ?_
  refine takeH 24 (.bool true) (some 57) rfl rfl (by kernel_rfl) (by kernel_rfl) (by kernel_rfl) (fun _ _ _ h => h) (.inl ⟨by kernel_rfl, fun w _ => by go_simp⟩) hSw7 ?_
  refine takeH 25 (.bool true) (some 58) rfl rfl (by kernel_rfl) (by kernel_rfl) (by kernel_rfl) (fun _ _ _ h => h) (.inl ⟨by kernel_rfl, fun w _ => by go_simp⟩) hSw7 ?_
  refine takeH 26 (.bool false) (some 59) rfl rfl (by kernel_rfl) (by kernel_rfl) (by kernel_rfl) (fun _ _ _ h => h) (.inl ⟨by kernel_rfl, fun w _ => by go_simp⟩) hSw7 ?_
  refine takeH 27 (.bool false) (some 60) rfl rfl (by kernel_rfl) (by kernel_rfl) (by kernel_rfl) (fun _ _ _ h => h) (.inl ⟨by kernel_rfl, fun w _ => by go_simp⟩) hSw7 ?_
  refine takeH 28 (.bool true) (some 61) rfl rfl (by kernel_rfl) (by kernel_rfl) (by kernel_rfl) (fun _ _ _ h => h) (.inl ⟨by kernel_rfl, fun w _ => by go_simp⟩) hSw7 ?_
  refine takeH 29 (.bool true) (some 62) rfl rfl (by kernel_rfl) (by kernel_rfl) (by kernel_rfl) (fun _ _ _ h => h) (.inl ⟨by kernel_rfl, fun w _ => by go_simp⟩) hSw7 ?_
  refine takeH 30 (.bool true) (some 63) rfl rfl (by kernel_rfl) (by kernel_rfl) (by kernel_rfl) (fun _ _ _ h => h) (.inl ⟨by kernel_rfl, fun w _ => by go_simp⟩) hSw7 ?_
  refine takeH 31 (.bool false) (some 64) rfl rfl (by kernel_rfl) (by kernel_rfl) (by kernel_rfl) (fun _ _ _ h => h) (.inl ⟨by kernel_rfl, fun w _ => by go_simp⟩) hSw7 ?_
  refine takeH 32 (.bool true) (some 65) rfl rfl (by kernel_rfl) (by kernel_rfl) (by kernel_rfl) (fun _ _ _ h => h) (.inl ⟨by kernel_rfl, fun w _ => by go_simp⟩) hSw7 ?_
  refine takeH 33 (.bool true) (some 66) rfl rfl (by kernel_rfl) (by kernel_rfl) (by kernel_rfl) (fun _ _ _ h => h) (.inl ⟨by kernel_rfl, fun w _ => by go_simp⟩) hSw7 ?_
  refine takeH 34 (undef) (some 67) rfl rfl (by kernel_rfl) (by kernel_rfl) (by kernel_rfl) (fun _ _ _ h => h) (.inr ⟨by kernel_rfl, rfl⟩) hSw7 ?_
  refine takeH 35 (undef) (some 68) rfl rfl (by kernel_rfl) (by kernel_rfl) (by kernel_rfl) (fun _ _ _ h => h) (.inr ⟨by kernel_rfl, rfl⟩) hSw7 ?_
  refine takeH 36 (undef) (some 69) rfl rfl (by kernel_rfl) (by kernel_rfl) (by kernel_rfl) (fun _ _ _ h => h) (.inr ⟨by kernel_rfl, rfl⟩) hSw7 ?_
  refine takeH 37 (undef) (some 70) rfl rfl (by kernel_rfl) (by kernel_rfl) (by kernel_rfl) (fun _ _ _ h => h) (.inr ⟨by kernel_rfl, rfl⟩) hSw7 ?_
  refine takeH 38 (.bool true) (some 71) rfl rfl (by kernel_rfl) (by kernel_rfl) (by kernel_rfl) (fun _ _ _ h => h) (.inl ⟨by kernel_rfl, fun w _ => by go_simp⟩) hSw7 ?_
  refine takeH 39 (.bool true) (some 72) rfl rfl (by kernel_rfl) (by kernel_rfl) (by kernel_rfl) (fun _ _ _ h => h) (.inl ⟨by kernel_rfl, fun w _ => by go_simp⟩) hSw7 ?_
  refine takeH 40 (.bool true) (some 2) rfl rfl (by kernel_rfl) (by kernel_rfl) (by kernel_rfl) (fun _ _ _ h => h) (.inl ⟨by kernel_rfl, fun w _ => by go_simp⟩) hSw7 ?_
  refine wpAnyH_done (by kernel_rfl) ?_ _
  go_simp
  go_wp2_with fail
  go_ret
  exact ⟨rfl, (bdrawn hB4).trans (hSw7.mono hB4.size)⟩

theorem opsForms_walk (W : World) (v0 : Value) (o0 : Arg Try.prog W 33 v0) :
    Calls Try.prog 14 #[v0] W fun e w' => e = .returned (.bool true) ∧ Below W.heap.size W w' := by
  obtain ⟨o, x, y, z, rfl, ho, hx, hy, hz⟩ := instr_is o0
  obtain ⟨k, rfl⟩ := Int.eq_ofNat_of_zero_le ho.1
  have hChk := fun w => opsCheck_any k x y z ho hx hy hz w
  have hRef := fun w => refCheck_any k x y z ho hx hy hz w
  have hName := fun w => opsName_any k ho.1 ho.2 w
  have hOf := fun w => opsOf_any k ho.1 ho.2 w
  rw [Int.toNat_natCast] at hChk hRef hName hOf
  by_cases h : 1 ≤ k ∧ k < 40
  · have hf := formOf_le k h.2 h.1
    have hv : ofVal (formOf k) = .tuple #[.int .u8 (formOf k), .bool true] := by
      unfold ofVal
      rw [if_pos (by omega), decide_eq_true (by omega)]
    rw [hv] at hOf
    refine opsForms_lo W k (formOf k) x y z _ (opName k) h.1 h.2 hf (nameVals_at k h.2) hOf (fun w => ?_) (fun w => ?_) hName hChk hRef
    · have := refForm_in k (by omega) (by omega) w
      rwa [Int.toNat_natCast] at this
    · refine (opsNamed_any (opName k) w).mono ?_
      rintro e w' ⟨l, rfl, hl, hb⟩
      obtain rfl := IsNamed.unique hl (named_of k h.1 h.2)
      exact ⟨by rw [decide_eq_true (by omega)], hb⟩
  · have hf : formOf k = 9 := by
      rcases Nat.eq_zero_or_pos k with rfl | h0
      · rfl
      · exact formOf_hi k (by omega)
    have hn : opName k = ByteArray.empty := by
      rcases Nat.eq_zero_or_pos k with rfl | h0
      · rfl
      · exact opName_hi k (by omega)
    rw [hf] at hOf hChk hRef
    rw [hn] at hName
    refine opsForms_hi W k x y z _ (by omega) hOf (fun w => ?_) (fun w => ?_) hName hChk hRef
    · refine (refForm_out k (by omega) w).mono ?_
      rintro e w' ⟨rfl, rfl⟩
      exact ⟨rfl, Below.refl _ _⟩
    · refine (opsNamed_any ByteArray.empty w).mono ?_
      rintro e w' ⟨l, rfl, hl, hb⟩
      obtain rfl := IsNamed.unique hl named_none
      exact ⟨rfl, hb⟩
end Go.Proofs.Ytbdcbkmacpameaa
