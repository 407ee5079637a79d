/- The law OpsUnlike: its walk. -/
import Derived.Test.YtbdcbkmacpameaaOpsE
import Derived.Test.YtbdcbkmacpameaaHeld
import Derived.Deep.DeepCutAuto
set_option linter.unusedVariables false
set_option linter.unusedSimpArgs false
namespace Go.Proofs.Ytbdcbkmacpameaa
open Go.RowKit

theorem snoc_len (zs : List Int) (x : Int) : (zs ++ [x]).length = zs.length + 1 := by simp
theorem snoc_map (zs : List Int) (x : Int) : (zs ++ [x]).map (Value.int .u8) = zs.map (Value.int .u8) ++ [Value.int .u8 x] := by simp
theorem si_drew {w : World} {k : IntKind} {v : Value} {zs : List Int} (h : SI w k v zs) : SI w.drew k v zs := ⟨h.sr.drewN 1, h.wf⟩
theorem wrap_small (M : Nat) (h : (M : Int) ≤ 5000) : IntKind.i64.wrap (M : Int) = (M : Int) := by
  simp [IntKind.wrap, IntKind.bits, IntKind.signed]
  omega
theorem tmod_16 (x : Int) (h : 0 ≤ x) : x.tmod 16 = x % 16 := Int.tmod_eq_emod_of_nonneg h
theorem lit_one (w : World) : Hid (SR (w.alloc (.cells #[.int .u8 0] 5)) (.slice (some ⟨w.heap.size, 0, none⟩) 1 1) 1 1 [.int .u8 0]) := by
  have h : (w.alloc (.cells #[.int .u8 0] 5)).ownsRow w.heap.size 5 1 (.slice (some ⟨w.heap.size, 0, none⟩) 1 1) 1 [.int .u8 0] := World.ownsRow_lit w #[.int .u8 0] 1 (Nat.le_refl _) (by simp [maxLen]) rfl
  exact SR.of_own h

theorem Arg.instr {W : World} {v : Value} (o : Arg Try.prog W 33 v) : ∃ a b c d : Int, v = .agg #[.int .u8 a, .int .u8 b, .int .u8 c, .int .u8 d] ∧ (0 ≤ a ∧ a ≤ 255) ∧ (0 ≤ b ∧ b ≤ 255) ∧ (0 ≤ c ∧ c ≤ 255) ∧ (0 ≤ d ∧ d ≤ 255) := by
  obtain ⟨cs, rfl, h⟩ := Arg.flat (.inl ⟨_, Try.underlying33⟩) 4 (ks := [⟨0, .u8, 0⟩, ⟨0, .u8, 0⟩, ⟨0, .u8, 0⟩, ⟨0, .u8, 0⟩]) (by kernel_rfl) o
  obtain ⟨_, _, rfl, ⟨a, rfl, ha⟩, h1⟩ := FitsAll.cons h
  obtain ⟨_, _, rfl, ⟨b, rfl, hb⟩, h2⟩ := FitsAll.cons h1
  obtain ⟨_, _, rfl, ⟨c, rfl, hc⟩, h3⟩ := FitsAll.cons h2
  obtain ⟨_, _, rfl, ⟨d, rfl, hd⟩, h4⟩ := FitsAll.cons h3
  obtain rfl := FitsAll.nil h4
  exact ⟨a, b, c, d, rfl, wf_u8 ha, wf_u8 hb, wf_u8 hc, wf_u8 hd⟩

set_option maxHeartbeats 8000000 in
set_option maxRecDepth 100000 in
theorem opsUnlike_walk (W : World) (v0 v1 v2 v3 : Value) (o0 : Arg Try.prog W 33 v0) (o1 : Arg Try.prog W 33 v1) (o2 : Arg Try.prog W 43 v2) (o3 : Arg Try.prog W 5 v3) :
    Calls Try.prog 5 #[v0, v1, v2, v3] W fun e w' => e = .returned (.bool true) ∧ Below W.heap.size W w' := by
  obtain ⟨a, b, c, d, rfl, ⟨ha, ha'⟩, ⟨hbl, hbu⟩, ⟨hc, hc'⟩, ⟨hd, hd'⟩⟩ := Arg.instr o0
  obtain ⟨p, q, r, s, rfl, ⟨hp, hp'⟩, ⟨hq, hq'⟩, ⟨hr, hr'⟩, ⟨hs, hs'⟩⟩ := Arg.instr o1
  obtain ⟨zs, hz⟩ := SI.of_arg Try.underlying43 Try.underlying5 (by kernel_rfl) o2
  obtain ⟨x, rfl, hx⟩ := Arg.int Try.underlying5 o3
  obtain ⟨hx0, hx1⟩ := wf_u8 hx
  clear o0 o1 o2 o3 hx
  obtain ⟨A, cap, rfl, hlc, hcm⟩ := hz.sr.form
  by_cases hbig : 1000 < (zs.length : Int)
  · go_enter Try.func5, Try.ntmps5
    go_wp2_with (go_at_call 15; refine (opsAwake_any _).mono ?_; rintro e w1 ⟨rfl, hb⟩)
    go_ret
    exact ⟨rfl, bnext (bnewAfter (bnew _ _) _) hb⟩
  · go_enter Try.func5, Try.ntmps5
    go_wp2_with fail
    go_at_call 15; refine (opsAwake_any _).mono ?_; rintro e w1 ⟨rfl, hb⟩
    have B1 := bkeep hb (bkeep (bnew _ _) (heap_alloc_last W _))
    have B2 := bkeep hb (heap_alloc_last _ _)
    have hB := bnext (bnewAfter (bnew _ _) _) hb
    have hz1 := hz.keep hB
    rw [show (W.alloc (Obj.cells #[Value.int IntKind.u8 a, Value.int IntKind.u8 b, Value.int IntKind.u8 c, Value.int IntKind.u8 d] 33)).heap.size = W.heap.size + 1 by simp] at B2
    clear hb hz
    have c1 := rowcell B1
    have c2 := rowcell B2
    go_upto_region 5 with fail
    go_cut [9] (fun s9 wx => s9 = .bool (decide (a = p ∧ b = q ∧ c = r ∧ d = s)) ∧ wx = w1)
    case first =>
      cases h1 : (a == p)
      · go_wp2_with fail
        go_meet
        refine ⟨val_bool ?_, rfl⟩
        simp only [beq_eq_false_iff_ne, beq_iff_eq] at h1
        simp [h1]
      · cases h2 : (b == q)
        · go_wp2_with fail
          go_meet
          refine ⟨val_bool ?_, rfl⟩
          simp only [beq_eq_false_iff_ne, beq_iff_eq] at h1 h2
          simp [h1, h2]
        · cases h3 : (c == r)
          · go_wp2_with fail
            go_meet
            refine ⟨val_bool ?_, rfl⟩
            simp only [beq_eq_false_iff_ne, beq_iff_eq] at h1 h2 h3
            simp [h1, h2, h3]
          · cases h4 : (d == s)
            · go_wp2_with fail
              go_meet
              refine ⟨val_bool ?_, rfl⟩
              simp only [beq_eq_false_iff_ne, beq_iff_eq] at h1 h2 h3 h4
              simp [h1, h2, h3, h4]
            · go_wp2_with fail
              go_meet
              refine ⟨val_bool ?_, rfl⟩
              simp only [beq_eq_false_iff_ne, beq_iff_eq] at h1 h2 h3 h4
              simp [h1, h2, h3, h4]
    case rest =>
      obtain ⟨rfl, rfl⟩ := hcut
      generalize hsame : decide (a = p ∧ b = q ∧ c = r ∧ d = s) = same
      have HS := Lib.hid hsame
      clear hsame
      go_wp2_with fail
      have B1' := bkeep (bnew wc (Obj.cells #[Value.int IntKind.u8 (x % 16), Value.slice A zs.length cap] 45)) B1
      have B2' := bkeep (bnew wc (Obj.cells #[Value.int IntKind.u8 (x % 16), Value.slice A zs.length cap] 45)) B2
      have hz2 := hz1.keep (bnew wc (Obj.cells #[Value.int IntKind.u8 (x % 16), Value.slice A zs.length cap] 45))
      have hB2 := bnewAfter hB (Obj.cells #[Value.int IntKind.u8 (x % 16), Value.slice A zs.length cap] 45)
      clear c1 c2 B1 B2 hz1 hB
      generalize wc.alloc (Obj.cells #[Value.int IntKind.u8 (x % 16), Value.slice A zs.length cap] 45) = w2 at *
      rcases Nat.eq_zero_or_pos zs.length with h0 | h0
      · have hfit : ¬ progFits (x % 16) zs.length := by unfold progFits; omega
        have hn0 : ((zs.length : Int) == 0) = true := by rw [beq_iff_eq]; omega
        replace h0 := Lib.hid h0
        replace hn0 := Lib.hid hn0
        refine (opsFile_no (x % 16) (by omega) (by omega) A zs.length cap (by omega) hfit _).mono ?_
        rintro e w3 ⟨rfl, hb3⟩
        have B1 := bkeep hb3 B1'
        have B2 := bkeep hb3 B2'
        have hz3 := Lib.hid (hz2.keep hb3)
        have hB3 := bnext hB2 hb3
        have hl3 : W.heap.size ≤ w3.heap.size := hB3.size
        clear B1' B2' hz2 hB2 hb3
        go_wp2_with (first
          | (refine wpList_append_sr rfl (.tmp 58) (.tmp 59) 43 rfl (some 60) rfl w3.heap.size 5 (.int .u8 0) 1 1 Try.underlying43 u8_info rfl (by omega) (.slice (some ⟨w3.heap.size, 0, none⟩) 0 0) (.slice A zs.length cap) 0 zs.length [] (zs.map (.int .u8)) (by go_simp) (World.ownsRow_lit w3 #[] 0 (Nat.le_refl _) (by simp [maxLen]) rfl) (by go_simp) (hz3.out.sr.alloc _) (ints_one _ _) (by simp [maxLen]; omega) (by omega) (by simp) ?_; intro u w4 hown4 hg4 hat4; rw [Nat.zero_add, List.nil_append] at hown4; have HO4 := Lib.hid hown4; have HG4 := Lib.hid hg4; have hsr1 := lit_one w4; clear hown4 hg4 hat4)
          | (refine wpList_append_sr rfl (.tmp 60) (.tmp 61) 43 rfl (some 62) rfl w3.heap.size 5 (.int .u8 0) 1 1 Try.underlying43 u8_info rfl (by omega) u (.slice (some ⟨w4.heap.size, 0, none⟩) 1 1) zs.length 1 (zs.map (.int .u8)) [.int .u8 0] rfl (HO4.out.alloc _) rfl hsr1.out (by intro u hu; simp at hu; subst hu; rfl) (by simp [maxLen]; omega) (by omega) (by have := HG4.out.size; simp at this ⊢; omega) ?_; intro u2 w5 hown5 hg5 hat5; obtain ⟨ad2, c2, rfl⟩ := own_form hown5; have HO5 := Lib.hid hown5; have HG5 := Lib.hid hg5; clear hown5 hg5 hat5))
        have hb45 : Below w3.heap.size w3 w5 := by
          have k1 : Below w3.heap.size w3 w4 := (bnew w3 (.cells #[] 5)).grown HG4.out (by simp) (fun j hj => by simp [Value.ownBlock] at hj; omega)
          have k2 : Below w3.heap.size w3 (w4.alloc (.cells #[.int .u8 0] 5)) := k1.alloc k1.size _
          exact k2.grown HG5.out (by have := k1.size; simp; omega) (fun j hj => (HO4.out.lt j hj).1)
        have hz5 : SI w5 .u8 (.slice ad2 (zs.length + 1) c2) (zs ++ [0]) := by
          refine ⟨?_, fun z hz => ?_⟩
          · have := SR.of_own HO5.out
            rw [snoc_len, snoc_map]
            exact this
          · rcases List.mem_append.1 hz with h | h
            · exact hz3.out.wf z h
            · simp at h; subst h; exact u8_wf (by omega)
        have hfit5 : progFits (x % 16) (zs ++ [0]).length := by unfold progFits; simp; omega
        refine (opsFile_yes (x % 16) (by omega) (by omega) _ (zs ++ [0]) _ hz5 hfit5).mono ?_
        rintro e w6 ⟨y, rfl, hy6, hb6⟩
        have hb36 : Below w3.heap.size w3 w6 := hb45.trans (hb6.mono hb45.size)
        have hB6 := hB3.trans (hb36.mono hl3)
        have B1d := bkeep hb36 B1
        have B2d := bkeep hb36 B2
        have hz6 := hz3.out.keep hb36
        obtain ⟨M, hM⟩ : ∃ M, M = zs.length + 4 := ⟨_, rfl⟩
        have hyl : (71 :: 88 :: (x % 16) :: 0 :: (zs ++ [0])).length = M + 1 := by simp [hM]
        have hyM := hy6.sr
        rw [hyl] at hyM
        obtain ⟨ady, cy, rfl, hc1, hc2⟩ := hyM.form
        obtain ⟨gy, offy, rfl, _, _⟩ : ∃ g off, ady = some ⟨g, off, none⟩ ∧ g < w6.heap.size ∧ True := by
          rcases hyM.cases with ⟨h, _⟩ | ⟨_, g, off, c, hv, _, _, hg, _⟩
          · omega
          · cases hv; exact ⟨g, off, rfl, hg, trivial⟩
        have hyP : SI w6 .u8 (.slice (some ⟨gy, offy, none⟩) M cy) (71 :: 88 :: (x % 16) :: 0 :: zs) := by
          refine ⟨?_, fun z hz => hy6.wf z (by simp only [List.mem_cons, List.mem_append] at hz ⊢; rcases hz with h | h | h | h | h <;> simp [h])⟩
          have := hyM.prefix M (by omega)
          rw [show (71 :: 88 :: (x % 16) :: 0 :: zs).length = M by simp [hM]]
          have e : ((71 :: 88 :: (x % 16) :: 0 :: (zs ++ [0])).map (Value.int .u8)).take M = (71 :: 88 :: (x % 16) :: 0 :: zs).map (.int .u8) := by
            rw [← List.map_take]
            congr 1
            rw [show (71 :: 88 :: (x % 16) :: 0 :: (zs ++ [0])) = (71 :: 88 :: (x % 16) :: 0 :: zs) ++ [0] by simp]
            rw [List.take_append_of_le_length (by simp [hM])]
            exact List.take_of_length_le (by simp [hM])
          rw [e] at this
          exact this
        obtain ⟨sX, hsX⟩ : ∃ s, s = strOfNums (71 :: 88 :: (x % 16) :: 0 :: zs) := ⟨_, rfl⟩
        obtain ⟨sL, hsL⟩ : ∃ s, s = strOfNums [71, 88, x % 16, 0] := ⟨_, rfl⟩
        obtain ⟨sZ, hsZ⟩ : ∃ s, s = strOfNums zs := ⟨_, rfl⟩
        have hcat : sL ++ sZ = sX := by
          rw [hsX, hsL, hsZ]
          apply bytes_eq
          rw [ByteArray.toList_eq, ByteArray.toList_eq, ByteArray.data_append, Array.toList_append]
          exact strOfNums_append [71, 88, x % 16, 0] zs
        have hsm : sX.size ≤ maxLen := by rw [hsX, strOfNums_size]; simp [maxLen]; omega
        have hM4 : (4 : Int) ≤ (M : Int) := by omega
        have hMb : (M : Int) ≤ 5000 := by omega
        have hMc : M ≤ cy := by omega
        have hwr := wrap_small M hMb
        have htm := tmod_16 x hx0
        have hMc' : ¬ cy < M := by omega
        clear hM hyl hyM hz5 hfit5 HO4 HO5 HG4 HG5 hz3 hb45
        go_wp2_with fail
        have hcz : ∀ w', Below w6.heap.size w6.drew w' → (convert 43 9 (.slice A zs.length cap)).run Try.prog w' = .ok (.string sZ) w' := fun w' h => by rw [hsZ]; exact ((si_drew hz6).keep h).toString Try.underlying43 Try.underlying5 Try.underlying9
        have hcy : ∀ w', Below w6.heap.size w6.drew w' → (convert 43 9 (.slice (some ⟨gy, offy, none⟩) M cy)).run Try.prog w' = .ok (.string sX) w' := fun w' h => by rw [hsX]; exact ((si_drew hyP).keep h).toString Try.underlying43 Try.underlying5 Try.underlying9
        have hl1 : ∀ w', Below w6.heap.size w6.drew w' → ∀ j v, (#[.int .u8 a, .int .u8 b, .int .u8 c, .int .u8 d]).toList[j]? = some v → w'.cell? ⟨W.heap.size, 0 + j, none⟩ = some v := fun w' h j v hv => by
          rw [Nat.zero_add, rowcell (bkeep (w := w') (W := w6.drew) h B1d) j]; simpa using hv
        have hl2 : ∀ w', Below w6.heap.size w6.drew w' → ∀ j v, (#[.int .u8 p, .int .u8 q, .int .u8 r, .int .u8 s]).toList[j]? = some v → w'.cell? ⟨W.heap.size + 1, 0 + j, none⟩ = some v := fun w' h j v hv => by
          rw [Nat.zero_add, rowcell (bkeep (w := w') (W := w6.drew) h B2d) j]; simpa using hv
        have hEq : ∀ w, (Op.equalIn 10000 29 (.agg #[.int .u8 a, .int .u8 b, .int .u8 c, .int .u8 d]) (.agg #[.int .u8 p, .int .u8 q, .int .u8 r, .int .u8 s])).run Try.prog w = .ok same w := fun w => by
          have := equal_ints (w := w) (P := Try.prog) Try.underlying29 Try.underlying5 (by kernel_rfl) (by kernel_rfl) (xs := [a, b, c, d]) (ys := [p, q, r, s]) rfl rfl
            (by intro z hz; simp at hz; rcases hz with rfl | rfl | rfl | rfl <;> exact u8_wf (by omega)) (by intro z hz; simp at hz; rcases hz with rfl | rfl | rfl | rfl <;> exact u8_wf (by omega))
          have e : decide ([a, b, c, d] = [p, q, r, s]) = same := by
            rw [← HS.out]; simp
          rwa [e] at this
        have hSd : Below w6.heap.size w6.drew w6.drew := Below.refl _ _
        have hBd : Below W.heap.size W w6.drew := bdrewN hB6 1
        have h33 : (Try.prog.info? 33).map (·.size) = some 4 := by kernel_rfl
        refine wp_region_held (S := fun w' => Below w6.heap.size w6.drew w') (by kernel_rfl) ?_
        change wpAnyH _ _ _ _ _ _ _ _ (World.drew _)
        refine takeH 0 (.agg #[.int .u8 a, .int .u8 b, .int .u8 c, .int .u8 d]) (some 67) rfl rfl (by kernel_rfl) (by kernel_rfl) (by kernel_rfl) (fun _ _ _ h => h) (yi_piece (by kernel_rfl) 33 (.tmp 4) rfl W.heap.size 0 (by go_simp) #[.int .u8 a, .int .u8 b, .int .u8 c, .int .u8 d] _ hl1 Try.underlying33 rfl h33) hSd ?_
        refine takeH 2 (.agg #[.int .u8 p, .int .u8 q, .int .u8 r, .int .u8 s]) (some 69) rfl rfl (by kernel_rfl) (by kernel_rfl) (by kernel_rfl) (fun _ _ _ h => h) (yi_piece (by kernel_rfl) 33 (.tmp 5) rfl (W.heap.size + 1) 0 (by go_simp) #[.int .u8 p, .int .u8 q, .int .u8 r, .int .u8 s] _ hl2 Try.underlying33 rfl h33) hSd ?_
        refine takeH 5 (.bool same) (some 72) rfl rfl (by kernel_rfl) (by kernel_rfl) (by kernel_rfl) (fun _ _ _ h => h) (.inl ⟨by kernel_rfl, fun w _ => by go_simp⟩) hSd ?_
        refine callH 1 rfl (by kernel_rfl) (by kernel_rfl) (some 68) rfl 21 #[.agg #[.int .u8 a, .int .u8 b, .int .u8 c, .int .u8 d]] ?hrun ((opsPack_any a b c d _).mono ?_)
        case hrun => go_simp
        rintro e w7 ⟨he, hb7⟩
        have hS7 : Below w6.heap.size w6.drew w7 := hSd.trans hb7
        refine ⟨_, he, hS7, ?_⟩
        refine callH 3 rfl (by kernel_rfl) (by kernel_rfl) (some 70) rfl 21 #[.agg #[.int .u8 p, .int .u8 q, .int .u8 r, .int .u8 s]] ?hrun ((opsPack_any p q r s _).mono ?_)
        case hrun => go_simp
        rintro e w8 ⟨he, hb8⟩
        have hS8 : Below w6.heap.size w6.drew w8 := hS7.trans (hb8.mono hS7.size)
        refine ⟨_, he, hS8, ?_⟩
        refine takeH 4 (.bool same) (some 71) rfl rfl (by kernel_rfl) (by kernel_rfl) (by kernel_rfl) (fun _ _ _ h => h) (.inl ⟨by kernel_rfl, fun w _ => exec_eql (xs := #[.int .u8 a, .int .u8 b, .int .u8 c, .int .u8 d]) (ys := #[.int .u8 p, .int .u8 q, .int .u8 r, .int .u8 s]) rfl (by go_simp) (by go_simp) (by kernel_rfl) (hEq w)⟩) hS8 ?_
        refine takeH 6 (.bool true) (some 73) rfl rfl (by kernel_rfl) (by kernel_rfl) (by kernel_rfl) (fun _ _ _ h => h) (.inl ⟨by kernel_rfl, fun w _ => by go_simp⟩) hS8 ?_
        refine takeH 7 (.bool true) (some 74) rfl rfl (by kernel_rfl) (by kernel_rfl) (by kernel_rfl) (fun _ _ _ h => h) (.inl ⟨by kernel_rfl, fun w _ => by go_simp⟩) hS8 ?_
        refine takeH 8 (.slice A zs.length cap) (some 75) rfl rfl (by kernel_rfl) (by kernel_rfl) (by kernel_rfl) (fun _ _ _ h => h) (.inl ⟨by kernel_rfl, fun w _ => by go_simp⟩) hS8 ?_
        refine takeH 9 (.int .i64 zs.length) (some 76) rfl rfl (by kernel_rfl) (by kernel_rfl) (by kernel_rfl) (fun _ _ _ h => h) (.inl ⟨by kernel_rfl, fun w _ => by go_simp⟩) hS8 ?_
        refine takeH 10 (.bool true) (some 77) rfl rfl (by kernel_rfl) (by kernel_rfl) (by kernel_rfl) (fun _ _ _ h => h) (.inl ⟨by kernel_rfl, fun w _ => by have hn := hn0.out; go_simp⟩) hS8 ?_
        refine takeH 11 (.int .i64 19) (some 78) rfl rfl (by kernel_rfl) (by kernel_rfl) (by kernel_rfl) (fun _ _ _ h => h) (.inl ⟨by kernel_rfl, fun w _ => by go_simp⟩) hS8 ?_
        refine takeH 12 (.bool true) (some 79) rfl rfl (by kernel_rfl) (by kernel_rfl) (by kernel_rfl) (fun _ _ _ h => h) (.inl ⟨by kernel_rfl, fun w _ => by go_simp⟩) hS8 ?_
        refine takeH 13 (.bool true) (some 80) rfl rfl (by kernel_rfl) (by kernel_rfl) (by kernel_rfl) (fun _ _ _ h => h) (.inl ⟨by kernel_rfl, fun w _ => by go_simp⟩) hS8 ?_
        refine takeH 14 (.bool true) (some 81) rfl rfl (by kernel_rfl) (by kernel_rfl) (by kernel_rfl) (fun _ _ _ h => h) (.inl ⟨by kernel_rfl, fun w _ => by go_simp⟩) hS8 ?_
        refine takeH 15 (.bool true) (some 82) rfl rfl (by kernel_rfl) (by kernel_rfl) (by kernel_rfl) (fun _ _ _ h => h) (.inl ⟨by kernel_rfl, fun w _ => by go_simp⟩) hS8 ?_
        refine takeH 16 (.int .i64 0) (some 83) rfl rfl (by kernel_rfl) (by kernel_rfl) (by kernel_rfl) (fun _ _ _ h => h) (.inl ⟨by kernel_rfl, fun w _ => by go_simp⟩) hS8 ?_
        refine takeH 17 (.bool true) (some 84) rfl rfl (by kernel_rfl) (by kernel_rfl) (by kernel_rfl) (fun _ _ _ h => h) (.inl ⟨by kernel_rfl, fun w _ => by go_simp⟩) hS8 ?_
        refine takeH 18 (.bool true) (some 85) rfl rfl (by kernel_rfl) (by kernel_rfl) (by kernel_rfl) (fun _ _ _ h => h) (.inl ⟨by kernel_rfl, fun w _ => by go_simp⟩) hS8 ?_
        refine takeH 19 (.bool true) (some 86) rfl rfl (by kernel_rfl) (by kernel_rfl) (by kernel_rfl) (fun _ _ _ h => h) (.inl ⟨by kernel_rfl, fun w _ => by go_simp⟩) hS8 ?_
        refine takeH 20 (.slice (some ⟨gy, offy, none⟩) (M + 1) cy) (some 87) rfl rfl (by kernel_rfl) (by kernel_rfl) (by kernel_rfl) (fun _ _ _ h => h) (.inl ⟨by kernel_rfl, fun w _ => by go_simp⟩) hS8 ?_
        refine takeH 21 (.slice (some ⟨gy, offy, none⟩) (M + 1) cy) (some 88) rfl rfl (by kernel_rfl) (by kernel_rfl) (by kernel_rfl) (fun _ _ _ h => h) (.inl ⟨by kernel_rfl, fun w _ => by go_simp⟩) hS8 ?_
        refine takeH 22 (.int .i64 ((M : Int) + 1)) (some 89) rfl rfl (by kernel_rfl) (by kernel_rfl) (by kernel_rfl) (fun _ _ _ h => h) (.inl ⟨by kernel_rfl, fun w _ => by go_simp⟩) hS8 ?_
        refine takeH 23 (.int .i64 M) (some 90) rfl rfl (by kernel_rfl) (by kernel_rfl) (by kernel_rfl) (fun _ _ _ h => h) (.inl ⟨by kernel_rfl, fun w _ => by go_simp⟩) hS8 ?_
        refine takeH 24 (.slice (some ⟨gy, offy, none⟩) M cy) (some 91) rfl rfl (by kernel_rfl) (by kernel_rfl) (by kernel_rfl) (fun _ _ _ h => h) (.inl ⟨by kernel_rfl, fun w _ => by go_simp⟩) hS8 ?_
        refine takeH 25 (.string sX) (some 92) rfl rfl (by kernel_rfl) (by kernel_rfl) (by kernel_rfl) (fun _ _ _ h => h) (yi_convert (by kernel_rfl) 43 9 (.tmp 91) rfl (.slice (some ⟨gy, offy, none⟩) M cy) (.string sX) (by go_simp) hcy) hS8 ?_
        refine takeH 26 (.int .u8 x) (some 93) rfl rfl (by kernel_rfl) (by kernel_rfl) (by kernel_rfl) (fun _ _ _ h => h) (.inl ⟨by kernel_rfl, fun w _ => by go_simp⟩) hS8 ?_
        refine takeH 27 (.int .u8 (x % 16)) (some 94) rfl rfl (by kernel_rfl) (by kernel_rfl) (by kernel_rfl) (fun _ _ _ h => h) (.inl ⟨by kernel_rfl, fun w _ => by go_simp⟩) hS8 ?_
        refine takeH 30 (.slice A zs.length cap) (some 97) rfl rfl (by kernel_rfl) (by kernel_rfl) (by kernel_rfl) (fun _ _ _ h => h) (.inl ⟨by kernel_rfl, fun w _ => by go_simp⟩) hS8 ?_
        refine takeH 31 (.string sZ) (some 98) rfl rfl (by kernel_rfl) (by kernel_rfl) (by kernel_rfl) (fun _ _ _ h => h) (yi_convert (by kernel_rfl) 43 9 (.tmp 97) rfl (.slice A zs.length cap) (.string sZ) (by go_simp) hcz) hS8 ?_
        have hSl : Below w8.heap.size w8 (w8.alloc (.cells #[.int .u8 71, .int .u8 88, .int .u8 (x % 16), .int .u8 0] 5)) := bnew w8 _
        have hlit : SI (w8.alloc (.cells #[.int .u8 71, .int .u8 88, .int .u8 (x % 16), .int .u8 0] 5)) .u8 (.slice (some ⟨w8.heap.size, 0, none⟩) 4 4) [71, 88, x % 16, 0] := by
          refine ⟨?_, fun z hz => ?_⟩
          · have h : (w8.alloc (.cells #[.int .u8 71, .int .u8 88, .int .u8 (x % 16), .int .u8 0] 5)).ownsRow w8.heap.size 5 1 (.slice (some ⟨w8.heap.size, 0, none⟩) 4 4) 4 [.int .u8 71, .int .u8 88, .int .u8 (x % 16), .int .u8 0] := World.ownsRow_lit w8 #[.int .u8 71, .int .u8 88, .int .u8 (x % 16), .int .u8 0] 4 (Nat.le_refl _) (by simp [maxLen]) rfl
            exact SR.of_own h
          · simp at hz; rcases hz with rfl | rfl | rfl | rfl <;> exact u8_wf (by omega)
        refine loudH 28 rfl (by kernel_rfl) (by kernel_rfl) (some 95) rfl (.slice (some ⟨w8.heap.size, 0, none⟩) 4 4) (w8.alloc (.cells #[.int .u8 71, .int .u8 88, .int .u8 (x % 16), .int .u8 0] 5)) ?hrun
          (fun w' => Below (w8.alloc (.cells #[.int .u8 71, .int .u8 88, .int .u8 (x % 16), .int .u8 0] 5)).heap.size (w8.alloc (.cells #[.int .u8 71, .int .u8 88, .int .u8 (x % 16), .int .u8 0] 5)) w') (fun w' h => hS8.trans ((hSl.trans (h.mono hSl.size)).mono hS8.size)) (Below.refl _ _) ?_
        case hrun => go_simp
        have hS9 : Below (w8.alloc (.cells #[.int .u8 71, .int .u8 88, .int .u8 (x % 16), .int .u8 0] 5)).heap.size (w8.alloc (.cells #[.int .u8 71, .int .u8 88, .int .u8 (x % 16), .int .u8 0] 5)) (w8.alloc (.cells #[.int .u8 71, .int .u8 88, .int .u8 (x % 16), .int .u8 0] 5)) := Below.refl _ _
        have hB9 : Below W.heap.size W (w8.alloc (.cells #[.int .u8 71, .int .u8 88, .int .u8 (x % 16), .int .u8 0] 5)) := hBd.trans ((hS8.trans (hSl.mono hS8.size)).mono hB6.size)
        generalize w8.alloc (.cells #[.int .u8 71, .int .u8 88, .int .u8 (x % 16), .int .u8 0] 5) = w9 at *
        have hS89 : ∀ w', Below w9.heap.size w9 w' → Below w6.heap.size w6.drew w' := fun w' h => hS8.trans ((hSl.trans (h.mono hSl.size)).mono hS8.size)
        have hcl : ∀ w', Below w9.heap.size w9 w' → (convert 43 9 (.slice (some ⟨w8.heap.size, 0, none⟩) 4 4)).run Try.prog w' = .ok (.string sL) w' := fun w' h => by rw [hsL]; exact (hlit.keep h).toString Try.underlying43 Try.underlying5 Try.underlying9
        refine takeH 29 (.string sL) (some 96) rfl rfl (by kernel_rfl) (by kernel_rfl) (by kernel_rfl) (fun _ _ _ h => h) (yi_convert (by kernel_rfl) 43 9 (.tmp 95) rfl (.slice (some ⟨w8.heap.size, 0, none⟩) 4 4) (.string sL) (by go_simp) hcl) hS9 ?_
        refine takeH 32 (.string sX) (some 99) rfl rfl (by kernel_rfl) (by kernel_rfl) (by kernel_rfl) (fun _ _ _ h => h) (yi_cat (by kernel_rfl) _ _ (.tmp 96) (.tmp 98) rfl sL sZ sX (by go_simp) (by go_simp) hcat hsm) hS9 ?_
        refine takeH 33 (.bool true) (some 100) rfl rfl (by kernel_rfl) (by kernel_rfl) (by kernel_rfl) (fun _ _ _ h => h) (.inl ⟨by kernel_rfl, fun w _ => by go_simp⟩) hS9 ?_
        refine takeH 34 (.bool true) (some 101) rfl rfl (by kernel_rfl) (by kernel_rfl) (by kernel_rfl) (fun _ _ _ h => h) (.inl ⟨by kernel_rfl, fun w _ => by go_simp⟩) hS9 ?_
        refine takeH 35 (.bool true) (some 102) rfl rfl (by kernel_rfl) (by kernel_rfl) (by kernel_rfl) (fun _ _ _ h => h) (.inl ⟨by kernel_rfl, fun w _ => by go_simp⟩) hS9 ?_
        refine takeH 36 (.int .i64 19) (some 103) rfl rfl (by kernel_rfl) (by kernel_rfl) (by kernel_rfl) (fun _ _ _ h => h) (.inl ⟨by kernel_rfl, fun w _ => by go_simp⟩) hS9 ?_
        refine takeH 37 (.bool true) (some 104) rfl rfl (by kernel_rfl) (by kernel_rfl) (by kernel_rfl) (fun _ _ _ h => h) (.inl ⟨by kernel_rfl, fun w _ => by go_simp⟩) hS9 ?_
        refine takeH 38 (.bool true) (some 105) rfl rfl (by kernel_rfl) (by kernel_rfl) (by kernel_rfl) (fun _ _ _ h => h) (.inl ⟨by kernel_rfl, fun w _ => by go_simp⟩) hS9 ?_
        refine takeH 39 (undef) (some 106) rfl rfl (by kernel_rfl) (by kernel_rfl) (by kernel_rfl) (fun _ _ _ h => h) (.inr ⟨by kernel_rfl, rfl⟩) hS9 ?_
        refine takeH 40 (undef) (some 107) rfl rfl (by kernel_rfl) (by kernel_rfl) (by kernel_rfl) (fun _ _ _ h => h) (.inr ⟨by kernel_rfl, rfl⟩) hS9 ?_
        refine takeH 41 (undef) (some 108) rfl rfl (by kernel_rfl) (by kernel_rfl) (by kernel_rfl) (fun _ _ _ h => h) (.inr ⟨by kernel_rfl, rfl⟩) hS9 ?_
        refine takeH 42 (undef) (some 109) rfl rfl (by kernel_rfl) (by kernel_rfl) (by kernel_rfl) (fun _ _ _ h => h) (.inr ⟨by kernel_rfl, rfl⟩) hS9 ?_
        refine takeH 43 (undef) (some 110) rfl rfl (by kernel_rfl) (by kernel_rfl) (by kernel_rfl) (fun _ _ _ h => h) (.inr ⟨by kernel_rfl, rfl⟩) hS9 ?_
        refine takeH 44 (undef) (some 111) rfl rfl (by kernel_rfl) (by kernel_rfl) (by kernel_rfl) (fun _ _ _ h => h) (.inr ⟨by kernel_rfl, rfl⟩) hS9 ?_
        refine takeH 45 (undef) (some 112) rfl rfl (by kernel_rfl) (by kernel_rfl) (by kernel_rfl) (fun _ _ _ h => h) (.inr ⟨by kernel_rfl, rfl⟩) hS9 ?_
        refine takeH 46 (undef) (some 113) rfl rfl (by kernel_rfl) (by kernel_rfl) (by kernel_rfl) (fun _ _ _ h => h) (.inr ⟨by kernel_rfl, rfl⟩) hS9 ?_
        refine takeH 47 (undef) (some 114) rfl rfl (by kernel_rfl) (by kernel_rfl) (by kernel_rfl) (fun _ _ _ h => h) (.inr ⟨by kernel_rfl, rfl⟩) hS9 ?_
        refine takeH 48 (.bool true) (some 115) rfl rfl (by kernel_rfl) (by kernel_rfl) (by kernel_rfl) (fun _ _ _ h => h) (.inl ⟨by kernel_rfl, fun w _ => by go_simp⟩) hS9 ?_
        refine takeH 49 (.bool true) (some 116) rfl rfl (by kernel_rfl) (by kernel_rfl) (by kernel_rfl) (fun _ _ _ h => h) (.inl ⟨by kernel_rfl, fun w _ => by go_simp⟩) hS9 ?_
        refine takeH 50 (.bool true) (some 8) rfl rfl (by kernel_rfl) (by kernel_rfl) (by kernel_rfl) (fun _ _ _ h => h) (.inl ⟨by kernel_rfl, fun w _ => by go_simp⟩) hS9 ?_
        refine wpAnyH_done (by kernel_rfl) ?_ _
        go_simp
        clear hcz hcy hcl hl1 hl2 hEq hS89 hSl hlit hS7 hS8 hSd HS
        go_wp2_with fail
        go_ret
        exact ⟨rfl, hB9⟩
      · have hfit : progFits (x % 16) zs.length := by unfold progFits; omega
        refine (opsFile_yes (x % 16) (by omega) (by omega) _ zs _ hz2 hfit).mono ?_
        rintro e w3 ⟨xv, rfl, hx3, hb3⟩
        have B1 := bkeep hb3 B1'
        have B2 := bkeep hb3 B2'
        have hz3 := Lib.hid (hz2.keep hb3)
        have hB3 := bnext hB2 hb3
        have hl3 : W.heap.size ≤ w3.heap.size := hB3.size
        clear B1' B2' hz2 hB2 hb3
        go_wp2_with (first
          | (refine wpList_append_sr rfl (.tmp 58) (.tmp 59) 43 rfl (some 60) rfl w3.heap.size 5 (.int .u8 0) 1 1 Try.underlying43 u8_info rfl (by omega) (.slice (some ⟨w3.heap.size, 0, none⟩) 0 0) (.slice A zs.length cap) 0 zs.length [] (zs.map (.int .u8)) (by go_simp) (World.ownsRow_lit w3 #[] 0 (Nat.le_refl _) (by simp [maxLen]) rfl) (by go_simp) (hz3.out.sr.alloc _) (ints_one _ _) (by simp [maxLen]; omega) (by omega) (by simp) ?_; intro u w4 hown4 hg4 hat4; rw [Nat.zero_add, List.nil_append] at hown4; have HO4 := Lib.hid hown4; have HG4 := Lib.hid hg4; have hsr1 := lit_one w4; clear hown4 hg4 hat4)
          | (refine wpList_append_sr rfl (.tmp 60) (.tmp 61) 43 rfl (some 62) rfl w3.heap.size 5 (.int .u8 0) 1 1 Try.underlying43 u8_info rfl (by omega) u (.slice (some ⟨w4.heap.size, 0, none⟩) 1 1) zs.length 1 (zs.map (.int .u8)) [.int .u8 0] rfl (HO4.out.alloc _) rfl hsr1.out (by intro u hu; simp at hu; subst hu; rfl) (by simp [maxLen]; omega) (by omega) (by have := HG4.out.size; simp at this ⊢; omega) ?_; intro u2 w5 hown5 hg5 hat5; obtain ⟨ad2, c2, rfl⟩ := own_form hown5; have HO5 := Lib.hid hown5; have HG5 := Lib.hid hg5; clear hown5 hg5 hat5))
        have hn0 : ((zs.length : Int) == 0) = false := by rw [beq_eq_false_iff_ne]; omega
        have hb45 : Below w3.heap.size w3 w5 := by
          have k1 : Below w3.heap.size w3 w4 := (bnew w3 (.cells #[] 5)).grown HG4.out (by simp) (fun j hj => by simp [Value.ownBlock] at hj; omega)
          have k2 : Below w3.heap.size w3 (w4.alloc (.cells #[.int .u8 0] 5)) := k1.alloc k1.size _
          exact k2.grown HG5.out (by have := k1.size; simp; omega) (fun j hj => (HO4.out.lt j hj).1)
        have hz5 : SI w5 .u8 (.slice ad2 (zs.length + 1) c2) (zs ++ [0]) := by
          refine ⟨?_, fun z hz => ?_⟩
          · have := SR.of_own HO5.out
            rw [snoc_len, snoc_map]
            exact this
          · rcases List.mem_append.1 hz with h | h
            · exact hz3.out.wf z h
            · simp at h; subst h; exact u8_wf (by omega)
        have hfit5 : progFits (x % 16) (zs ++ [0]).length := by unfold progFits; simp; omega
        refine (opsFile_yes (x % 16) (by omega) (by omega) _ (zs ++ [0]) _ hz5 hfit5).mono ?_
        rintro e w6 ⟨y, rfl, hy6, hb6⟩
        have hb36 : Below w3.heap.size w3 w6 := hb45.trans (hb6.mono hb45.size)
        have hB6 := hB3.trans (hb36.mono hl3)
        have B1d := bkeep hb36 B1
        have B2d := bkeep hb36 B2
        have hz6 := hz3.out.keep hb36
        have hx6 := hx3.keep hb36
        obtain ⟨M, hM⟩ : ∃ M, M = zs.length + 4 := ⟨_, rfl⟩
        have hyl : (71 :: 88 :: (x % 16) :: 0 :: (zs ++ [0])).length = M + 1 := by simp [hM]
        have hyM := hy6.sr
        rw [hyl] at hyM
        obtain ⟨ady, cy, rfl, hc1, hc2⟩ := hyM.form
        obtain ⟨gy, offy, rfl, _, _⟩ : ∃ g off, ady = some ⟨g, off, none⟩ ∧ g < w6.heap.size ∧ True := by
          rcases hyM.cases with ⟨h, _⟩ | ⟨_, g, off, c, hv, _, _, hg, _⟩
          · omega
          · cases hv; exact ⟨g, off, rfl, hg, trivial⟩
        have hyP : SI w6 .u8 (.slice (some ⟨gy, offy, none⟩) M cy) (71 :: 88 :: (x % 16) :: 0 :: zs) := by
          refine ⟨?_, fun z hz => hy6.wf z (by simp only [List.mem_cons, List.mem_append] at hz ⊢; rcases hz with h | h | h | h | h <;> simp [h])⟩
          have := hyM.prefix M (by omega)
          rw [show (71 :: 88 :: (x % 16) :: 0 :: zs).length = M by simp [hM]]
          have e : ((71 :: 88 :: (x % 16) :: 0 :: (zs ++ [0])).map (Value.int .u8)).take M = (71 :: 88 :: (x % 16) :: 0 :: zs).map (.int .u8) := by
            rw [← List.map_take]
            congr 1
            rw [show (71 :: 88 :: (x % 16) :: 0 :: (zs ++ [0])) = (71 :: 88 :: (x % 16) :: 0 :: zs) ++ [0] by simp]
            rw [List.take_append_of_le_length (by simp [hM])]
            exact List.take_of_length_le (by simp [hM])
          rw [e] at this
          exact this
        obtain ⟨sX, hsX⟩ : ∃ s, s = strOfNums (71 :: 88 :: (x % 16) :: 0 :: zs) := ⟨_, rfl⟩
        obtain ⟨sL, hsL⟩ : ∃ s, s = strOfNums [71, 88, x % 16, 0] := ⟨_, rfl⟩
        obtain ⟨sZ, hsZ⟩ : ∃ s, s = strOfNums zs := ⟨_, rfl⟩
        have hcat : sL ++ sZ = sX := by
          rw [hsX, hsL, hsZ]
          apply bytes_eq
          rw [ByteArray.toList_eq, ByteArray.toList_eq, ByteArray.data_append, Array.toList_append]
          exact strOfNums_append [71, 88, x % 16, 0] zs
        have hsm : sX.size ≤ maxLen := by rw [hsX, strOfNums_size]; simp [maxLen]; omega
        have hM4 : (4 : Int) ≤ (M : Int) := by omega
        have hMb : (M : Int) ≤ 5000 := by omega
        have hMc : M ≤ cy := by omega
        have hwr := wrap_small M hMb
        have htm := tmod_16 x hx0
        have hMc' : ¬ cy < M := by omega
        clear hM hyl hyM hz5 hfit5 HO4 HO5 HG4 HG5 hz3 hb45
        go_wp2_with fail
        have hcz : ∀ w', Below w6.heap.size w6.drew w' → (convert 43 9 (.slice A zs.length cap)).run Try.prog w' = .ok (.string sZ) w' := fun w' h => by rw [hsZ]; exact ((si_drew hz6).keep h).toString Try.underlying43 Try.underlying5 Try.underlying9
        have hcy : ∀ w', Below w6.heap.size w6.drew w' → (convert 43 9 (.slice (some ⟨gy, offy, none⟩) M cy)).run Try.prog w' = .ok (.string sX) w' := fun w' h => by rw [hsX]; exact ((si_drew hyP).keep h).toString Try.underlying43 Try.underlying5 Try.underlying9
        have hcx : ∀ w', Below w6.heap.size w6.drew w' → (convert 43 9 xv).run Try.prog w' = .ok (.string sX) w' := fun w' h => by rw [hsX]; exact ((si_drew hx6).keep h).toString Try.underlying43 Try.underlying5 Try.underlying9
        have hl1 : ∀ w', Below w6.heap.size w6.drew w' → ∀ j v, (#[.int .u8 a, .int .u8 b, .int .u8 c, .int .u8 d]).toList[j]? = some v → w'.cell? ⟨W.heap.size, 0 + j, none⟩ = some v := fun w' h j v hv => by
          rw [Nat.zero_add, rowcell (bkeep (w := w') (W := w6.drew) h B1d) j]; simpa using hv
        have hl2 : ∀ w', Below w6.heap.size w6.drew w' → ∀ j v, (#[.int .u8 p, .int .u8 q, .int .u8 r, .int .u8 s]).toList[j]? = some v → w'.cell? ⟨W.heap.size + 1, 0 + j, none⟩ = some v := fun w' h j v hv => by
          rw [Nat.zero_add, rowcell (bkeep (w := w') (W := w6.drew) h B2d) j]; simpa using hv
        have hEq : ∀ w, (Op.equalIn 10000 29 (.agg #[.int .u8 a, .int .u8 b, .int .u8 c, .int .u8 d]) (.agg #[.int .u8 p, .int .u8 q, .int .u8 r, .int .u8 s])).run Try.prog w = .ok same w := fun w => by
          have := equal_ints (w := w) (P := Try.prog) Try.underlying29 Try.underlying5 (by kernel_rfl) (by kernel_rfl) (xs := [a, b, c, d]) (ys := [p, q, r, s]) rfl rfl
            (by intro z hz; simp at hz; rcases hz with rfl | rfl | rfl | rfl <;> exact u8_wf (by omega)) (by intro z hz; simp at hz; rcases hz with rfl | rfl | rfl | rfl <;> exact u8_wf (by omega))
          have e : decide ([a, b, c, d] = [p, q, r, s]) = same := by
            rw [← HS.out]; simp
          rwa [e] at this
        have hSd : Below w6.heap.size w6.drew w6.drew := Below.refl _ _
        have hBd : Below W.heap.size W w6.drew := bdrewN hB6 1
        have h33 : (Try.prog.info? 33).map (·.size) = some 4 := by kernel_rfl
        refine wp_region_held (S := fun w' => Below w6.heap.size w6.drew w') (by kernel_rfl) ?_
        change wpAnyH _ _ _ _ _ _ _ _ (World.drew _)
        refine takeH 0 (.agg #[.int .u8 a, .int .u8 b, .int .u8 c, .int .u8 d]) (some 67) rfl rfl (by kernel_rfl) (by kernel_rfl) (by kernel_rfl) (fun _ _ _ h => h) (yi_piece (by kernel_rfl) 33 (.tmp 4) rfl W.heap.size 0 (by go_simp) #[.int .u8 a, .int .u8 b, .int .u8 c, .int .u8 d] _ hl1 Try.underlying33 rfl h33) hSd ?_
        refine takeH 2 (.agg #[.int .u8 p, .int .u8 q, .int .u8 r, .int .u8 s]) (some 69) rfl rfl (by kernel_rfl) (by kernel_rfl) (by kernel_rfl) (fun _ _ _ h => h) (yi_piece (by kernel_rfl) 33 (.tmp 5) rfl (W.heap.size + 1) 0 (by go_simp) #[.int .u8 p, .int .u8 q, .int .u8 r, .int .u8 s] _ hl2 Try.underlying33 rfl h33) hSd ?_
        refine takeH 5 (.bool same) (some 72) rfl rfl (by kernel_rfl) (by kernel_rfl) (by kernel_rfl) (fun _ _ _ h => h) (.inl ⟨by kernel_rfl, fun w _ => by go_simp⟩) hSd ?_
        refine callH 1 rfl (by kernel_rfl) (by kernel_rfl) (some 68) rfl 21 #[.agg #[.int .u8 a, .int .u8 b, .int .u8 c, .int .u8 d]] ?hrun ((opsPack_any a b c d _).mono ?_)
        case hrun => go_simp
        rintro e w7 ⟨he, hb7⟩
        have hS7 : Below w6.heap.size w6.drew w7 := hSd.trans hb7
        refine ⟨_, he, hS7, ?_⟩
        refine callH 3 rfl (by kernel_rfl) (by kernel_rfl) (some 70) rfl 21 #[.agg #[.int .u8 p, .int .u8 q, .int .u8 r, .int .u8 s]] ?hrun ((opsPack_any p q r s _).mono ?_)
        case hrun => go_simp
        rintro e w8 ⟨he, hb8⟩
        have hS8 : Below w6.heap.size w6.drew w8 := hS7.trans (hb8.mono hS7.size)
        refine ⟨_, he, hS8, ?_⟩
        refine takeH 4 (.bool same) (some 71) rfl rfl (by kernel_rfl) (by kernel_rfl) (by kernel_rfl) (fun _ _ _ h => h) (.inl ⟨by kernel_rfl, fun w _ => exec_eql (xs := #[.int .u8 a, .int .u8 b, .int .u8 c, .int .u8 d]) (ys := #[.int .u8 p, .int .u8 q, .int .u8 r, .int .u8 s]) rfl (by go_simp) (by go_simp) (by kernel_rfl) (hEq w)⟩) hS8 ?_
        refine takeH 6 (.bool true) (some 73) rfl rfl (by kernel_rfl) (by kernel_rfl) (by kernel_rfl) (fun _ _ _ h => h) (.inl ⟨by kernel_rfl, fun w _ => by go_simp⟩) hS8 ?_
        refine takeH 7 (.bool true) (some 74) rfl rfl (by kernel_rfl) (by kernel_rfl) (by kernel_rfl) (fun _ _ _ h => h) (.inl ⟨by kernel_rfl, fun w _ => by go_simp⟩) hS8 ?_
        refine takeH 8 (.slice A zs.length cap) (some 75) rfl rfl (by kernel_rfl) (by kernel_rfl) (by kernel_rfl) (fun _ _ _ h => h) (.inl ⟨by kernel_rfl, fun w _ => by go_simp⟩) hS8 ?_
        refine takeH 9 (.int .i64 zs.length) (some 76) rfl rfl (by kernel_rfl) (by kernel_rfl) (by kernel_rfl) (fun _ _ _ h => h) (.inl ⟨by kernel_rfl, fun w _ => by go_simp⟩) hS8 ?_
        refine takeH 10 (.bool false) (some 77) rfl rfl (by kernel_rfl) (by kernel_rfl) (by kernel_rfl) (fun _ _ _ h => h) (.inl ⟨by kernel_rfl, fun w _ => by go_simp⟩) hS8 ?_
        refine takeH 11 (.int .i64 0) (some 78) rfl rfl (by kernel_rfl) (by kernel_rfl) (by kernel_rfl) (fun _ _ _ h => h) (.inl ⟨by kernel_rfl, fun w _ => by go_simp⟩) hS8 ?_
        refine takeH 12 (.bool false) (some 79) rfl rfl (by kernel_rfl) (by kernel_rfl) (by kernel_rfl) (fun _ _ _ h => h) (.inl ⟨by kernel_rfl, fun w _ => by go_simp⟩) hS8 ?_
        refine takeH 13 (.bool true) (some 80) rfl rfl (by kernel_rfl) (by kernel_rfl) (by kernel_rfl) (fun _ _ _ h => h) (.inl ⟨by kernel_rfl, fun w _ => by go_simp⟩) hS8 ?_
        refine takeH 14 (.bool true) (some 81) rfl rfl (by kernel_rfl) (by kernel_rfl) (by kernel_rfl) (fun _ _ _ h => h) (.inl ⟨by kernel_rfl, fun w _ => by go_simp⟩) hS8 ?_
        refine takeH 15 (.bool true) (some 82) rfl rfl (by kernel_rfl) (by kernel_rfl) (by kernel_rfl) (fun _ _ _ h => h) (.inl ⟨by kernel_rfl, fun w _ => by go_simp⟩) hS8 ?_
        refine takeH 16 (.int .i64 0) (some 83) rfl rfl (by kernel_rfl) (by kernel_rfl) (by kernel_rfl) (fun _ _ _ h => h) (.inl ⟨by kernel_rfl, fun w _ => by go_simp⟩) hS8 ?_
        refine takeH 17 (.bool true) (some 84) rfl rfl (by kernel_rfl) (by kernel_rfl) (by kernel_rfl) (fun _ _ _ h => h) (.inl ⟨by kernel_rfl, fun w _ => by go_simp⟩) hS8 ?_
        refine takeH 18 (.bool true) (some 85) rfl rfl (by kernel_rfl) (by kernel_rfl) (by kernel_rfl) (fun _ _ _ h => h) (.inl ⟨by kernel_rfl, fun w _ => by go_simp⟩) hS8 ?_
        refine takeH 19 (.bool true) (some 86) rfl rfl (by kernel_rfl) (by kernel_rfl) (by kernel_rfl) (fun _ _ _ h => h) (.inl ⟨by kernel_rfl, fun w _ => by go_simp⟩) hS8 ?_
        refine takeH 20 (.slice (some ⟨gy, offy, none⟩) (M + 1) cy) (some 87) rfl rfl (by kernel_rfl) (by kernel_rfl) (by kernel_rfl) (fun _ _ _ h => h) (.inl ⟨by kernel_rfl, fun w _ => by go_simp⟩) hS8 ?_
        refine takeH 21 (.slice (some ⟨gy, offy, none⟩) (M + 1) cy) (some 88) rfl rfl (by kernel_rfl) (by kernel_rfl) (by kernel_rfl) (fun _ _ _ h => h) (.inl ⟨by kernel_rfl, fun w _ => by go_simp⟩) hS8 ?_
        refine takeH 22 (.int .i64 ((M : Int) + 1)) (some 89) rfl rfl (by kernel_rfl) (by kernel_rfl) (by kernel_rfl) (fun _ _ _ h => h) (.inl ⟨by kernel_rfl, fun w _ => by go_simp⟩) hS8 ?_
        refine takeH 23 (.int .i64 M) (some 90) rfl rfl (by kernel_rfl) (by kernel_rfl) (by kernel_rfl) (fun _ _ _ h => h) (.inl ⟨by kernel_rfl, fun w _ => by go_simp⟩) hS8 ?_
        refine takeH 24 (.slice (some ⟨gy, offy, none⟩) M cy) (some 91) rfl rfl (by kernel_rfl) (by kernel_rfl) (by kernel_rfl) (fun _ _ _ h => h) (.inl ⟨by kernel_rfl, fun w _ => by go_simp⟩) hS8 ?_
        refine takeH 25 (.string sX) (some 92) rfl rfl (by kernel_rfl) (by kernel_rfl) (by kernel_rfl) (fun _ _ _ h => h) (yi_convert (by kernel_rfl) 43 9 (.tmp 91) rfl (.slice (some ⟨gy, offy, none⟩) M cy) (.string sX) (by go_simp) hcy) hS8 ?_
        refine takeH 26 (.int .u8 x) (some 93) rfl rfl (by kernel_rfl) (by kernel_rfl) (by kernel_rfl) (fun _ _ _ h => h) (.inl ⟨by kernel_rfl, fun w _ => by go_simp⟩) hS8 ?_
        refine takeH 27 (.int .u8 (x % 16)) (some 94) rfl rfl (by kernel_rfl) (by kernel_rfl) (by kernel_rfl) (fun _ _ _ h => h) (.inl ⟨by kernel_rfl, fun w _ => by go_simp⟩) hS8 ?_
        refine takeH 30 (.slice A zs.length cap) (some 97) rfl rfl (by kernel_rfl) (by kernel_rfl) (by kernel_rfl) (fun _ _ _ h => h) (.inl ⟨by kernel_rfl, fun w _ => by go_simp⟩) hS8 ?_
        refine takeH 31 (.string sZ) (some 98) rfl rfl (by kernel_rfl) (by kernel_rfl) (by kernel_rfl) (fun _ _ _ h => h) (yi_convert (by kernel_rfl) 43 9 (.tmp 97) rfl (.slice A zs.length cap) (.string sZ) (by go_simp) hcz) hS8 ?_
        have hSl : Below w8.heap.size w8 (w8.alloc (.cells #[.int .u8 71, .int .u8 88, .int .u8 (x % 16), .int .u8 0] 5)) := bnew w8 _
        have hlit : SI (w8.alloc (.cells #[.int .u8 71, .int .u8 88, .int .u8 (x % 16), .int .u8 0] 5)) .u8 (.slice (some ⟨w8.heap.size, 0, none⟩) 4 4) [71, 88, x % 16, 0] := by
          refine ⟨?_, fun z hz => ?_⟩
          · have h : (w8.alloc (.cells #[.int .u8 71, .int .u8 88, .int .u8 (x % 16), .int .u8 0] 5)).ownsRow w8.heap.size 5 1 (.slice (some ⟨w8.heap.size, 0, none⟩) 4 4) 4 [.int .u8 71, .int .u8 88, .int .u8 (x % 16), .int .u8 0] := World.ownsRow_lit w8 #[.int .u8 71, .int .u8 88, .int .u8 (x % 16), .int .u8 0] 4 (Nat.le_refl _) (by simp [maxLen]) rfl
            exact SR.of_own h
          · simp at hz; rcases hz with rfl | rfl | rfl | rfl <;> exact u8_wf (by omega)
        refine loudH 28 rfl (by kernel_rfl) (by kernel_rfl) (some 95) rfl (.slice (some ⟨w8.heap.size, 0, none⟩) 4 4) (w8.alloc (.cells #[.int .u8 71, .int .u8 88, .int .u8 (x % 16), .int .u8 0] 5)) ?hrun
          (fun w' => Below (w8.alloc (.cells #[.int .u8 71, .int .u8 88, .int .u8 (x % 16), .int .u8 0] 5)).heap.size (w8.alloc (.cells #[.int .u8 71, .int .u8 88, .int .u8 (x % 16), .int .u8 0] 5)) w') (fun w' h => hS8.trans ((hSl.trans (h.mono hSl.size)).mono hS8.size)) (Below.refl _ _) ?_
        case hrun => go_simp
        have hS9 : Below (w8.alloc (.cells #[.int .u8 71, .int .u8 88, .int .u8 (x % 16), .int .u8 0] 5)).heap.size (w8.alloc (.cells #[.int .u8 71, .int .u8 88, .int .u8 (x % 16), .int .u8 0] 5)) (w8.alloc (.cells #[.int .u8 71, .int .u8 88, .int .u8 (x % 16), .int .u8 0] 5)) := Below.refl _ _
        have hB9 : Below W.heap.size W (w8.alloc (.cells #[.int .u8 71, .int .u8 88, .int .u8 (x % 16), .int .u8 0] 5)) := hBd.trans ((hS8.trans (hSl.mono hS8.size)).mono hB6.size)
        generalize w8.alloc (.cells #[.int .u8 71, .int .u8 88, .int .u8 (x % 16), .int .u8 0] 5) = w9 at *
        have hS89 : ∀ w', Below w9.heap.size w9 w' → Below w6.heap.size w6.drew w' := fun w' h => hS8.trans ((hSl.trans (h.mono hSl.size)).mono hS8.size)
        have hcl : ∀ w', Below w9.heap.size w9 w' → (convert 43 9 (.slice (some ⟨w8.heap.size, 0, none⟩) 4 4)).run Try.prog w' = .ok (.string sL) w' := fun w' h => by rw [hsL]; exact (hlit.keep h).toString Try.underlying43 Try.underlying5 Try.underlying9
        refine takeH 29 (.string sL) (some 96) rfl rfl (by kernel_rfl) (by kernel_rfl) (by kernel_rfl) (fun _ _ _ h => h) (yi_convert (by kernel_rfl) 43 9 (.tmp 95) rfl (.slice (some ⟨w8.heap.size, 0, none⟩) 4 4) (.string sL) (by go_simp) hcl) hS9 ?_
        refine takeH 32 (.string sX) (some 99) rfl rfl (by kernel_rfl) (by kernel_rfl) (by kernel_rfl) (fun _ _ _ h => h) (yi_cat (by kernel_rfl) _ _ (.tmp 96) (.tmp 98) rfl sL sZ sX (by go_simp) (by go_simp) hcat hsm) hS9 ?_
        refine takeH 33 (.bool true) (some 100) rfl rfl (by kernel_rfl) (by kernel_rfl) (by kernel_rfl) (fun _ _ _ h => h) (.inl ⟨by kernel_rfl, fun w _ => by go_simp⟩) hS9 ?_
        refine takeH 34 (.bool true) (some 101) rfl rfl (by kernel_rfl) (by kernel_rfl) (by kernel_rfl) (fun _ _ _ h => h) (.inl ⟨by kernel_rfl, fun w _ => by go_simp⟩) hS9 ?_
        refine takeH 35 (.bool true) (some 102) rfl rfl (by kernel_rfl) (by kernel_rfl) (by kernel_rfl) (fun _ _ _ h => h) (.inl ⟨by kernel_rfl, fun w _ => by go_simp⟩) hS9 ?_
        refine takeH 36 (.int .i64 0) (some 103) rfl rfl (by kernel_rfl) (by kernel_rfl) (by kernel_rfl) (fun _ _ _ h => h) (.inl ⟨by kernel_rfl, fun w _ => by go_simp⟩) hS9 ?_
        refine takeH 37 (.bool false) (some 104) rfl rfl (by kernel_rfl) (by kernel_rfl) (by kernel_rfl) (fun _ _ _ h => h) (.inl ⟨by kernel_rfl, fun w _ => by go_simp⟩) hS9 ?_
        refine takeH 38 (.bool false) (some 105) rfl rfl (by kernel_rfl) (by kernel_rfl) (by kernel_rfl) (fun _ _ _ h => h) (.inl ⟨by kernel_rfl, fun w _ => by go_simp⟩) hS9 ?_
        refine takeH 39 (xv) (some 106) rfl rfl (by kernel_rfl) (by kernel_rfl) (by kernel_rfl) (fun _ _ _ h => h) (.inl ⟨by kernel_rfl, fun w _ => by go_simp⟩) hS9 ?_
        refine takeH 40 (.string sX) (some 107) rfl rfl (by kernel_rfl) (by kernel_rfl) (by kernel_rfl) (fun _ _ _ h => h) (yi_convert (by kernel_rfl) 43 9 (.tmp 106) rfl (xv) (.string sX) (by go_simp) (fun w h => hcx w (hS89 w h))) hS9 ?_
        refine takeH 41 (.slice (some ⟨gy, offy, none⟩) (M + 1) cy) (some 108) rfl rfl (by kernel_rfl) (by kernel_rfl) (by kernel_rfl) (fun _ _ _ h => h) (.inl ⟨by kernel_rfl, fun w _ => by go_simp⟩) hS9 ?_
        refine takeH 42 (.slice (some ⟨gy, offy, none⟩) (M + 1) cy) (some 109) rfl rfl (by kernel_rfl) (by kernel_rfl) (by kernel_rfl) (fun _ _ _ h => h) (.inl ⟨by kernel_rfl, fun w _ => by go_simp⟩) hS9 ?_
        refine takeH 43 (.int .i64 ((M : Int) + 1)) (some 110) rfl rfl (by kernel_rfl) (by kernel_rfl) (by kernel_rfl) (fun _ _ _ h => h) (.inl ⟨by kernel_rfl, fun w _ => by go_simp⟩) hS9 ?_
        refine takeH 44 (.int .i64 M) (some 111) rfl rfl (by kernel_rfl) (by kernel_rfl) (by kernel_rfl) (fun _ _ _ h => h) (.inl ⟨by kernel_rfl, fun w _ => by go_simp⟩) hS9 ?_
        refine takeH 45 (.slice (some ⟨gy, offy, none⟩) M cy) (some 112) rfl rfl (by kernel_rfl) (by kernel_rfl) (by kernel_rfl) (fun _ _ _ h => h) (.inl ⟨by kernel_rfl, fun w _ => by go_simp⟩) hS9 ?_
        refine takeH 46 (.string sX) (some 113) rfl rfl (by kernel_rfl) (by kernel_rfl) (by kernel_rfl) (fun _ _ _ h => h) (yi_convert (by kernel_rfl) 43 9 (.tmp 112) rfl (.slice (some ⟨gy, offy, none⟩) M cy) (.string sX) (by go_simp) (fun w h => hcy w (hS89 w h))) hS9 ?_
        refine takeH 47 (.bool true) (some 114) rfl rfl (by kernel_rfl) (by kernel_rfl) (by kernel_rfl) (fun _ _ _ h => h) (.inl ⟨by kernel_rfl, fun w _ => by go_simp⟩) hS9 ?_
        refine takeH 48 (.bool true) (some 115) rfl rfl (by kernel_rfl) (by kernel_rfl) (by kernel_rfl) (fun _ _ _ h => h) (.inl ⟨by kernel_rfl, fun w _ => by go_simp⟩) hS9 ?_
        refine takeH 49 (.bool true) (some 116) rfl rfl (by kernel_rfl) (by kernel_rfl) (by kernel_rfl) (fun _ _ _ h => h) (.inl ⟨by kernel_rfl, fun w _ => by go_simp⟩) hS9 ?_
        refine takeH 50 (.bool true) (some 8) rfl rfl (by kernel_rfl) (by kernel_rfl) (by kernel_rfl) (fun _ _ _ h => h) (.inl ⟨by kernel_rfl, fun w _ => by go_simp⟩) hS9 ?_
        refine wpAnyH_done (by kernel_rfl) ?_ _
        go_simp
        clear hcz hcy hcl hl1 hl2 hEq hS89 hSl hlit hS7 hS8 hSd HS
        go_wp2_with fail
        go_ret
        exact ⟨rfl, hB9⟩
end Go.Proofs.Ytbdcbkmacpameaa
