/- Whose turn it is: the chapter's example; TurnBounds. -/
import Derived.Test.YtpjfnmmgfmfcfaaTskF
import Derived.Test.YtpjfnmmgfmfcfaaSpcD
import Derived.LaidEqlPtr
set_option linter.unusedVariables false
set_option linter.unusedSimpArgs false
namespace Go.Proofs.Ytpjfnmmgfmfcfaa
open Go.RowKit
open Go.Maps (Keyed)

/-- A size with so many pages and processes of the first two labels. -/
def hvX (a b c d : Nat) : Array Value := #[.int .u8 0, .int .u8 0, .int .u8 0, .int .u8 a, .int .u8 b, .int .u8 0, .int .u8 0, .int .u8 0, .int .u8 c, .int .u8 d, .int .u8 0, .int .u8 0, .int .u8 0, .int .u8 0, .int .u8 0, .int .u8 0, .int .u8 0, .int .u8 0, .int .u8 0, .int .u8 0, .int .u8 0, .int .u8 0, .int .u8 0, .int .u8 0, .int .u8 0, .int .u8 0, .slice none 0 0]
def hvS (a b c d : Nat) : SizeL := ⟨0, fun i => if i = 2 then a else if i = 3 then b else if i = 7 then c else if i = 8 then d else 0, []⟩
theorem hvX_ok (w : World) (a b c d : Nat) (ha : a ≤ 255) (hb : b ≤ 255) (hc : c ≤ 255) (hd : d ≤ 255) : SizeV w (.agg (hvX a b c d)) (hvS a b c d) := by
  refine ⟨hvX a b c d, .slice none 0 0, rfl, rfl, rfl, ?_, rfl, SI.nil w _, by simp [hvS], fun i => ?_⟩
  · intro i hi
    iterate 25 (rcases i with _ | i; · rfl)
    omega
  · simp only [hvS]
    split
    · exact ha
    · split
      · exact hb
      · split
        · exact hc
        · split
          · exact hd
          · omega
theorem hvS_len (a b c d : Nat) : (sizeRegs (hvS a b c d)).length = 2 := by rw [sizeRegs_length]; rfl
theorem sizePr (s : SizeL) (k : Nat) (h : k < (sizeRegs s).length) : (sizeRegs s)[k].pr = 1 + s.h (k * 5 + 3) % 6 := by rw [sizeRegs_get]; rfl
theorem sizePr_le (s : SizeL) : ∀ r ∈ sizeRegs s, r.pr ≤ 16 := fun r hr => by
  obtain ⟨k, hk, rfl⟩ := List.mem_iff_getElem.1 hr
  rw [sizePr]
  omega

/-- '==' on pointers to processes. -/
theorem proc_info : ∃ j, Try.prog.info? 63 = some j ∧ j.size ≠ 0 := by
  obtain ⟨j, hj⟩ := Option.isSome_iff_exists.1 (show (Try.prog.info? 63).isSome = true by kernel_rfl)
  refine ⟨j, hj, ?_⟩
  have : (Try.prog.info? 63).map (·.size) = some 57 := by kernel_rfl
  rw [hj] at this
  have h : j.size = 57 := Option.some.inj this
  rw [h]; decide
theorem eqlProc_same (b : Nat) (w : World) : (binOp .eql 36 (.pointer (some ⟨b, 0, none⟩)) (.pointer (some ⟨b, 0, none⟩))).run Try.prog w = .ok (.bool true) w := by
  obtain ⟨j, hj, _⟩ := proc_info
  exact run_eql_ptr_same w _ Try.underlying36 hj
theorem eqProc_same (b : Nat) (w : World) : (Op.equalIn 10000 36 (.pointer (some ⟨b, 0, none⟩)) (.pointer (some ⟨b, 0, none⟩))).run Try.prog w = .ok true w := by
  obtain ⟨j, hj, _⟩ := proc_info
  have h : ∀ d : Nat, (Op.equalIn (d + 1) 36 (.pointer (some ⟨b, 0, none⟩)) (.pointer (some ⟨b, 0, none⟩))).run Try.prog w = .ok true w := fun d => by
    simp [Op.equalIn, run_underlying Try.underlying36, sizeOf, typeInfo, hj, run_sameAddr_same]
  exact h 9999
theorem eqProc_other {b b' : Nat} {ca cb : Array Value} {ta tb : TypeId} (hne : b ≠ b') (w : World) (ha : w.heap[b]? = some (.cells ca ta (0, 0))) (hb : w.heap[b']? = some (.cells cb tb (0, 0))) :
    (Op.equalIn 10000 36 (.pointer (some ⟨b, 0, none⟩)) (.pointer (some ⟨b', 0, none⟩))).run Try.prog w = .ok false w := by
  obtain ⟨j, hj, hsz⟩ := proc_info
  have h1 := run_sameAddr_other (P := Try.prog) w (a := ⟨b, 0, none⟩) (b := ⟨b', 0, none⟩) (fun e => hne (by injection e)) ha hb
  have h : ∀ d : Nat, (Op.equalIn (d + 1) 36 (.pointer (some ⟨b, 0, none⟩)) (.pointer (some ⟨b', 0, none⟩))).run Try.prog w = .ok false w := fun d => by
    simp [Op.equalIn, run_underlying Try.underlying36, sizeOf, typeInfo, hj, hsz, h1]
  exact h 9999

set_option maxRecDepth 100000 in
set_option maxHeartbeats 8000000 in
theorem turnAwake_in (W : World) : Calls Try.prog 16 #[] W fun e w' => e = .returned (.bool true) ∧ Below W.heap.size W w' := by
  have hX := fun w => hvX_ok w 0 3 0 0 (by omega) (by omega) (by omega) (by omega)
  unfold hvX at hX
  go_enter Try.func16, Try.ntmps16
  go_wp2_with fail
  refine (sizeConf_in _ _ (hvS 0 3 0 0) (hX _)).mono ?_; rintro e w1 ⟨hb1, cg, gT, gN, gL, v', m', u', rfl, hcf⟩
  have HP := Lib.hid (hcf.toP (sizeLe _) (sizeOk _))
  have HB1 := Lib.hid hb1
  clear hcf hb1 hX
  go_wp2_with fail
  refine (turnNew_in _ _).mono ?_; rintro e w2 ⟨gt, rfl, hgt, hu, hb2⟩
  go_wp2_with fail
  refine (taskNew_in _ _).mono ?_; rintro e w3 ⟨g, gm, rfl, hg, hgm, ht, hb3⟩
  have HU3 := Lib.hid (show TU w3 gt (some ⟨cg, 0, none⟩) (fun _ => 0) 0 0 from hu.of_block (hb3.block gt hu.lt))
  have HT3 := Lib.hid ht
  have HB3 := Lib.hid (bnext hb2 hb3)
  have HG := Lib.hid (show w1.heap.size ≤ gt ∧ w1.heap.size ≤ g ∧ w1.heap.size ≤ gm ∧ w1.heap.size ≤ w2.heap.size by have := hb2.size; omega)
  have HGG := Lib.hid (And.intro hg hgm)
  clear hu hb2 hb3 ht hgt hg hgm
  go_wp2_with fail
  have hadd := taskAdd_ok HP.out HB3.out HT3.out HG.out.2.1 HG.out.2.2.1 (by have := HGG.out.1; have := HT3.out.tp.row.lt; omega) 0 1 (by rw [hvS_len]; omega) (sizeLe64 _) 0 (by rw [sizePr]; decide) (by simp) (by omega) (by omega) rfl (fun m h1 h2 => by omega)
  refine hadd.mono ?_
  rintro e w4 ⟨x1, rfl, hx1, ht4, hd4⟩
  have HT4 := Lib.hid ht4
  have HB4 := Lib.hid (Duo.go HB3.out hd4 HG.out.2.1 HG.out.2.2.1 HB3.out.size)
  have HU4 := Lib.hid (show TU w4 gt (some ⟨cg, 0, none⟩) (fun _ => 0) 0 0 from HU3.out.of_block (hd4.block gt HU3.out.lt (fun e => HU3.out.notS HT3.out (.inl e)) (fun e => HU3.out.notS HT3.out (.inr (.inl e)))))
  clear hadd ht4 hd4
  go_wp2_with fail
  have hadd := taskAdd_ok HP.out HB4.out HT4.out HG.out.2.1 HG.out.2.2.1 (by have := HGG.out.1; have := HT4.out.tp.row.lt; omega) 0 2 (by rw [hvS_len]; omega) (sizeLe64 _) 0 (by rw [sizePr]; exact (by decide : 1 < 1 + 3 % 6)) (by rw [setT_same]; simp [insE]) (by omega) (by omega) rfl (fun m h1 h2 => by
    obtain rfl : m = 1 := by omega
    simp [tF, setT, insE, newP])
  refine hadd.mono ?_
  rintro e w5 ⟨x2, rfl, hx2, ht5, hd5⟩
  have HU5 := Lib.hid (show TU w5 gt (some ⟨cg, 0, none⟩) (fun _ => 0) 0 0 from HU4.out.of_block (hd5.block gt HU4.out.lt (fun e => HU4.out.notS HT4.out (.inl e)) (fun e => HU4.out.notS HT4.out (.inr (.inl e)))))
  have HB5 := Lib.hid (Duo.go HB4.out hd5 HG.out.2.1 HG.out.2.2.1 HB4.out.size)
  obtain ⟨T, hT⟩ : ∃ T, T = (setT (setT (fun x => []) 0 (insE ((fun x => []) 0) { blk := x1, pr := newP 0 1 0 (sizeRegs (hvS 0 3 0 0))[0].cl })) 0 (insE (setT (fun x => []) 0 (insE ((fun x => []) 0) { blk := x1, pr := newP 0 1 0 (sizeRegs (hvS 0 3 0 0))[0].cl }) 0) { blk := x2, pr := newP 0 2 0 (sizeRegs (hvS 0 3 0 0))[0].cl })) := ⟨_, rfl⟩
  rw [← hT] at ht5
  have hT0 : T 0 = [⟨x1, newP 0 1 0 (sizeRegs (hvS 0 3 0 0))[0].cl⟩, ⟨x2, newP 0 2 0 (sizeRegs (hvS 0 3 0 0))[0].cl⟩] := by rw [hT]; rfl
  obtain ⟨c1, hc1⟩ : ∃ c, c = (sizeRegs (hvS 0 3 0 0))[0].cl := ⟨_, rfl⟩
  rw [← hc1] at hT0
  have HT5 := Lib.hid ht5
  have HT0 := Lib.hid hT0
  clear hadd ht5 hd5 hT hc1 hT0
  go_wp2_with fail
  refine (turnPick_in HT5.out HU5.out 0 (by omega)).mono ?_
  rintro e w6 ⟨rfl, ht6, hu6, hc6⟩
  have hp6 : pickL (T 0) ((fun _ => 0) 0) = some ⟨x1, newP 0 1 0 c1⟩ := by rw [HT0.out]; rfl
  have hl6 : pickLast (T 0) (fun _ => 0) 0 = setN (fun _ => 0) 0 1 := by unfold pickLast; rw [hp6]; rfl
  rw [hp6]
  rw [hl6] at hu6
  simp only [ptrO, Option.map_some]
  have HT6 := Lib.hid ht6
  have HU6 := Lib.hid hu6
  have HB6 := Lib.hid (Chg.go HB5.out hc6 (fun k hk => by rw [hk]; exact HG.out.1) HB5.out.size)
  clear ht6 hu6 hc6 hp6 hl6
  go_wp2_with fail
  refine (turnPick_in HT6.out HU6.out 0 (by omega)).mono ?_
  rintro e w7 ⟨rfl, ht7, hu7, hc7⟩
  have hp7 : pickL (T 0) (setN (fun _ => 0) 0 1 0) = some ⟨x2, newP 0 2 0 c1⟩ := by rw [HT0.out]; rfl
  have hl7 : pickLast (T 0) (setN (fun _ => 0) 0 1) 0 = setN (setN (fun _ => 0) 0 1) 0 2 := by unfold pickLast; rw [hp7]; rfl
  rw [hp7]
  rw [hl7] at hu7
  simp only [ptrO, Option.map_some]
  have HT7 := Lib.hid ht7
  have HU7 := Lib.hid hu7
  have HB7 := Lib.hid (Chg.go HB6.out hc7 (fun k hk => by rw [hk]; exact HG.out.1) HB6.out.size)
  clear ht7 hu7 hc7 hp7 hl7
  go_wp2_with fail
  refine (turnPick_in HT7.out HU7.out 0 (by omega)).mono ?_
  rintro e w8 ⟨rfl, ht8, hu8, hc8⟩
  have hp8 : pickL (T 0) (setN (setN (fun _ => 0) 0 1) 0 2 0) = some ⟨x1, newP 0 1 0 c1⟩ := by rw [HT0.out]; rfl
  rw [hp8]
  simp only [ptrO, Option.map_some]
  have HB8 := Lib.hid (Chg.go HB7.out hc8 (fun k hk => by rw [hk]; exact HG.out.1) HB7.out.size)
  have r1 := ht8.pr 0 ⟨x1, newP 0 1 0 c1⟩ (by rw [HT0.out]; simp)
  have r2 := ht8.pr 0 ⟨x2, newP 0 2 0 c1⟩ (by rw [HT0.out]; simp)
  have e1 : w8.cell? ⟨x1, 1, none⟩ = some (.int .u16 1) := r1.cell (i := 1) (by omega)
  have e2 : w8.cell? ⟨x2, 1, none⟩ = some (.int .u16 2) := r2.cell (i := 1) (by omega)
  clear ht8 hu8 hc8 hp8 r1 r2
  have heq := eqProc_same x1
  have heq2 := eqlProc_same x1
  go_wp2_with fail
  go_ret
  exact ⟨rfl, HB1.out.trans (HB8.out.mono HB1.out.size)⟩

end Go.Proofs.Ytpjfnmmgfmfcfaa
