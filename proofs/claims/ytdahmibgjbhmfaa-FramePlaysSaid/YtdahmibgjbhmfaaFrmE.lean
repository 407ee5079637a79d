/- The laws' fixed fact on pages; FrameNone. -/
import Derived.Test.YtdahmibgjbhmfaaFrmD
set_option linter.unusedVariables false
set_option linter.unusedSimpArgs false
namespace Go.Proofs.Ytdahmibgjbhmfaa
open Go.RowKit
open Go.Maps (Keyed)

theorem eqFrame (p q : Nat × Nat) (hp1 : p.1 ≤ 255) (hp2 : p.2 ≤ 65535) (hq1 : q.1 ≤ 255) (hq2 : q.2 ≤ 65535) (w : World) :
    (Op.equalIn 10000 43 (.agg #[.int .u8 p.1, .int .u16 p.2]) (.agg #[.int .u8 q.1, .int .u16 q.2])).run Try.prog w = .ok (decide (p = q)) w := by
  have z1 : Try.prog.cellsOf 43 = 2 := by kernel_rfl
  have z2 : Try.prog.cellsOf 5 = 1 := by kernel_rfl
  have z3 : Try.prog.cellsOf 41 = 1 := by kernel_rfl
  have key : ∀ p : Nat × Nat, p.1 ≤ 255 → p.2 ≤ 65535 → Try.prog.keyLits 2 43 [.int .u8 p.1, .int .u16 p.2] = some [.int .u8 p.1, .int .u16 p.2] := by
    intro p h1 h2
    have e8 : Try.prog.keyLits 1 5 [.int .u8 (p.1 : Int)] = some [.int .u8 p.1] := by simp [Program.keyLits, Try.underlying5, u8_wf (show 0 ≤ (p.1 : Int) ∧ (p.1 : Int) ≤ 255 by omega)]
    have e16 : Try.prog.keyLits 1 41 [.int .u16 (p.2 : Int)] = some [.int .u16 p.2] := by simp [Program.keyLits, Try.underlying41, u16_wf (show 0 ≤ (p.2 : Int) ∧ (p.2 : Int) ≤ 65535 by omega)]
    unfold Program.keyLits
    simp [Try.underlying43, z1, z2, z3, e8, e16]
  have formed : ∀ p : Nat × Nat, (Value.agg #[.int .u8 (p.1 : Int), .int .u16 (p.2 : Int)]).formed Try.prog 43 = true := fun p => by
    simp [Value.formed, Try.underlying43, z1]
  exact equal_key 2 (by omega) (by kernel_rfl) (formed p) (formed q) (key p hp1 hp2) (key q hq1 hq2) (by
    obtain ⟨a, b⟩ := p
    obtain ⟨c, d⟩ := q
    simp
    omega)

def noF : Nat × Nat → Option (Nat → Nat) := fun _ => none
set_option maxRecDepth 20000 in
set_option maxHeartbeats 8000000 in
theorem frameAwake_in (w : World) : Calls Try.prog 4 #[] w fun e w' => e = .returned (.bool true) ∧ Below w.heap.size w w' := by
  obtain ⟨s, hs⟩ : ∃ s, s = (⟨0, fun _ => 0, []⟩ : SizeL) := ⟨_, rfl⟩
  have hm : (sizeRegs s).length = 2 := by rw [hs, sizeRegs_length]; rfl
  have hfr : ∀ h, ((sizeRegs s)[0]'h).fr = 4 := fun h => by rw [sizeFr, hs]; rfl
  have HS := Lib.hid hs
  have HM := Lib.hid hm
  have HFR := Lib.hid hfr
  have eq := eqFrame (0, 0) (0, 0) (by omega) (by omega) (by omega) (by omega)
  rw [decide_eq_true rfl] at eq
  clear hs hm hfr
  go_enter Try.func4, Try.ntmps4
  go_wp2_with fail
  refine (sizeConf_in _ (.agg sizeZ) s (by rw [HS.out]; exact sizeZ_ok _)).mono ?_; rintro e w1 ⟨hb1, cg, gT, gN, gL, v', m', u', rfl, hcf⟩
  have HP := Lib.hid (hcf.toP (sizeLe _) (sizeOk _))
  have HB1 := Lib.hid hb1
  clear hcf hb1
  go_wp2_with fail
  refine (frameNew_in _ _).mono ?_; rintro e w2 ⟨g, gm, rfl, hg, hgm, hT, hb2⟩
  have HT2 := Lib.hid hT
  have HG := Lib.hid (And.intro hg hgm)
  have HB2 := Lib.hid hb2
  clear hT hg hgm hb2
  go_wp2_with fail
  refine (frameTake_ok HP.out HB2.out HT2.out HG.out.1 HG.out.2 0 0 (by rw [HM.out]; omega) (sizeLe64 s) (by show 0 < _; rw [HFR.out]; omega) (by omega) (by omega) rfl (fun m hm => by omega)).mono ?_
  rintro e w3 ⟨rfl, hT3, hd3⟩
  unfold markV
  have ha3 := heap_alloc_last w3 (.cells #[.int .u8 0, .int .u16 0] 43)
  have hn3 := bnew w3 (.cells #[.int .u8 0, .int .u16 0] 43)
  have HT3 := Lib.hid (hT3.keep hn3)
  have HB3 := Lib.hid (bnext (Duo.next HB2.out hd3 HG.out.1 HG.out.2) hn3)
  have HX3 := Lib.hid (show g < w3.heap.size ∧ gm < w3.heap.size from ⟨hT3.row.lt, hT3.mp.lt⟩)
  clear hT3 hd3 hn3
  go_wp2_with fail
  generalize hN3 : w3.heap.size = n3 at *
  generalize w3.alloc (.cells #[.int .u8 0, .int .u16 0] 43) = w4 at *
  have HA4 := Lib.hid ha3
  have HN3 := Lib.hid hN3
  clear ha3 hN3
  refine (frameTake_ok HP.out HB3.out HT3.out HG.out.1 HG.out.2 0 1 (by rw [HM.out]; omega) (sizeLe64 s) (by show 1 < _; rw [HFR.out]; omega) (by show 1 < 65536; omega) (by omega) rfl (fun m hm => by obtain rfl : m = 0 := (by omega); simp [putF])).mono ?_
  rintro e w5 ⟨rfl, hT5, hd5⟩
  unfold markV
  have ha5 := heap_alloc_last w5 (.cells #[.int .u8 0, .int .u16 1] 43)
  have hn5 := bnew w5 (.cells #[.int .u8 0, .int .u16 1] 43)
  have HT5 := Lib.hid (hT5.keep hn5)
  have HB5 := Lib.hid (bnext (Duo.next HB3.out hd5 HG.out.1 HG.out.2) hn5)
  have HA5 := Lib.hid (bkeep hn5 (hd5.blk HA4.out (by have := HX3.out; omega) (by have := HX3.out; omega)))
  have HX5 := Lib.hid (show g < w5.heap.size ∧ gm < w5.heap.size from ⟨hT5.row.lt, hT5.mp.lt⟩)
  clear hT5 hd5 hn5
  have c1 := rowcell HA5.out
  go_wp2_with fail
  generalize hN5 : w5.heap.size = n5 at *
  generalize w5.alloc (.cells #[.int .u8 0, .int .u16 1] 43) = w6 at *
  have HA6 := Lib.hid ha5
  have HN5 := Lib.hid hN5
  clear ha5 hN5 c1
  refine (frameGive_ok HT5.out (0, 0) (by omega) (by omega) (by simp [putF]) (by show 0 < 2; omega) (by show 2 < 65536; omega)).mono ?_
  rintro e w7 ⟨rfl, hT7, hd7⟩
  have HT7 := Lib.hid hT7
  have HB7 := Lib.hid (Duo.next HB5.out hd7 HG.out.1 HG.out.2)
  have HA7 := Lib.hid (hd7.blk HA5.out (by have := HX3.out; omega) (by have := HX3.out; omega))
  have HC7 := Lib.hid (hd7.blk HA6.out (by have := HX5.out; omega) (by have := HX5.out; omega))
  clear hT7 hd7
  go_wp2_with fail
  refine (frameTake_ok HP.out HB7.out HT7.out HG.out.1 HG.out.2 0 0 (by rw [HM.out]; omega) (sizeLe64 s) (by show 1 < _; rw [HFR.out]; omega) (by show 1 < 65536; omega) (by omega) rfl (fun m hm => by omega)).mono ?_
  rintro e w8 ⟨rfl, hT8, hd8⟩
  unfold markV
  have ha8 := heap_alloc_last w8 (.cells #[.int .u8 0, .int .u16 0] 43)
  have hn8 := bnew w8 (.cells #[.int .u8 0, .int .u16 0] 43)
  have HT8 := Lib.hid (hT8.keep hn8)
  have HB8 := Lib.hid (bnext (Duo.next HB7.out hd8 HG.out.1 HG.out.2) hn8)
  have HA8 := Lib.hid (bkeep hn8 (hd8.blk HA7.out (by have := HX3.out; omega) (by have := HX3.out; omega)))
  have HC8 := Lib.hid (bkeep hn8 (hd8.blk HC7.out (by have := HX5.out; omega) (by have := HX5.out; omega)))
  clear hT8 hd8 hn8
  have c1 := rowcell HA8.out
  have c2 := rowcell HC8.out
  have c3 := rowcell ha8
  clear ha8
  go_wp2_with fail
  clear c1 c2 c3
  refine (frameUsed_in HT8.out 0 (by omega)).mono ?_
  rintro e w10 ⟨rfl, rfl⟩
  go_wp2_with fail
  go_ret
  exact ⟨rfl, bnext HB1.out HB8.out⟩
end Go.Proofs.Ytdahmibgjbhmfaa
