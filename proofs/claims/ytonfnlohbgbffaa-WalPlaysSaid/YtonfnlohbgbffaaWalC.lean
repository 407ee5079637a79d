/- The log: its head; Open, Format, Begin. -/
import Derived.Test.YtonfnlohbgbffaaWalB
set_option linter.unusedVariables false
set_option linter.unusedSimpArgs false
namespace Go.Proofs.Ytonfnlohbgbffaa
open Go.RowKit

theorem One.drew {w w' : World} {r : Option Nat} (o : One w w' r) : One w w'.drew r := ⟨o.os, o.tape, o.output, o.size, o.block⟩
def put2B (f : Nat → Nat) (at_ x : Nat) (i : Nat) : Nat := if i = at_ then x % 256 else if i = at_ + 1 then x / 256 % 256 else f i
section
variable {w w' : World} {f : Nat → Nat} {G : Nat}
set_option maxRecDepth 10000 in
set_option maxHeartbeats 1000000 in
theorem walPut2_in (h : w.rowIs G 52 64 (pgC f)) (at_ x : Nat) (ha : at_ + 1 < 64) (hx : x ≤ 65535) :
    Calls Try.prog 92 #[.pointer (some ⟨G, 0, none⟩), .int .i64 at_, .int .u16 x] w fun e w' => e = .returned (.tuple #[]) ∧ w'.rowIs G 52 64 (pgC (put2B f at_ x)) ∧ One w w' (some G) := by
  have f1 : (at_ : Int) + 1 ≤ 9223372036854775807 := by omega
  have f2 : (at_ : Int) < 64 := by omega
  have f3 : (at_ : Int) + 1 < 64 := by omega
  have c1 := h.cell (i := at_) (by omega)
  have c2 := h.cell (i := at_ + 1) (by omega)
  have df := h.frozen
  have HH := Lib.hid h
  clear h
  go_enter Try.func92, Try.ntmps92
  go_wp2_with fail
  go_region
  go_end0
  have e1 : ((x : Int) % 256) = ((x % 256 : Nat) : Int) := by omega
  have e2 : ((x : Int) / 256) = ((x / 256 % 256 : Nat) : Int) := by omega
  rw [e1, e2]
  refine ⟨rfl, (((HH.out.set at_ _).set (at_ + 1) _).congr (fun i hi => ?_)).drew, ((one_setCell w G at_ _).trans (one_setCell _ G (at_ + 1) _)).drew⟩
  unfold pgC put2B
  by_cases h1 : i = at_ + 1
  · rw [if_pos h1, if_neg (by omega), if_pos h1]
  · rw [if_neg h1]
    by_cases h2 : i = at_
    · rw [if_pos h2, if_pos h2]
    · rw [if_neg h2, if_neg h2, if_neg h1]

/-- A head of so many places, the first k of which are in it. -/
def headTo (L : List Nat) (k i : Nat) : Nat :=
  if i = 0 then 161 else if i = 1 then 103 else if i = 2 then L.length % 256 else if i = 3 then L.length / 256 % 256 else
  if (i - 4) / 2 < k then (if i % 2 = 0 then L.getD ((i - 4) / 2) 0 % 256 else L.getD ((i - 4) / 2) 0 / 256 % 256) else 0
def logB (L : List Nat) : Nat → Nat := headTo L L.length
theorem headTo_u8 (L : List Nat) (k i : Nat) : headTo L k i ≤ 255 := by
  unfold headTo
  repeat (first | omega | split)
theorem headTo_zero (L : List Nat) : put2B (put2B (fun _ => 0) 0 26529) 2 L.length = headTo L 0 := by
  funext i
  unfold put2B headTo
  rcases i with _ | _ | _ | _ | i
  · rfl
  · rfl
  · rfl
  · rfl
  · rw [if_neg (by omega), if_neg (by omega), if_neg (by omega), if_neg (by omega), if_neg (by omega), if_neg (by omega), if_neg (by omega), if_neg (by omega), if_neg (by omega)]
theorem headTo_next (L : List Nat) (k : Nat) : put2B (headTo L k) (4 + 2 * k) (L.getD k 0) = headTo L (k + 1) := by
  funext i
  unfold put2B headTo
  by_cases h1 : i = 4 + 2 * k
  · have e : (i - 4) / 2 = k := by omega
    rw [if_pos h1, if_neg (by omega), if_neg (by omega), if_neg (by omega), if_neg (by omega), if_pos (by omega), if_pos (by omega), e]
  · rw [if_neg h1]
    by_cases h2 : i = 4 + 2 * k + 1
    · have e : (i - 4) / 2 = k := by omega
      rw [if_pos h2, if_neg (by omega), if_neg (by omega), if_neg (by omega), if_neg (by omega), if_pos (by omega), if_neg (by omega), e]
    · rw [if_neg h2]
      by_cases h3 : i < 4
      · rcases i with _ | _ | _ | _ | i
        · rfl
        · rfl
        · rfl
        · rfl
        · omega
      · have q0 : ¬ i = 0 := by omega
        have q1 : ¬ i = 1 := by omega
        have q2 : ¬ i = 2 := by omega
        have q3 : ¬ i = 3 := by omega
        simp only [if_neg q0, if_neg q1, if_neg q2, if_neg q3]
        by_cases h4 : (i - 4) / 2 < k
        · have h5 : (i - 4) / 2 < k + 1 := by omega
          rw [if_pos h4, if_pos h5]
        · have h5 : ¬ (i - 4) / 2 < k + 1 := by omega
          rw [if_neg h4, if_neg h5]

def natInts (L : List Nat) : List Int := L.map fun (n : Nat) => (n : Int)
set_option maxRecDepth 10000 in
set_option maxHeartbeats 2000000 in
theorem walHead_in {v : Value} {L : List Nat} (hv : SI w .i64 v (natInts L)) (hl : L.length ≤ 30) (h16 : ∀ n ∈ L, n ≤ 65535) :
    Calls Try.prog 79 #[v] w fun e w' => e = .returned (pageV (logB L)) ∧ Below w.heap.size w w' := by
  have hln : (natInts L).length = L.length := by simp [natInts]
  have hs := hv.sr
  rw [hln] at hs
  obtain ⟨ad, cap, rfl, hc1, hc2⟩ := hs.form
  have HS := Lib.hid hs
  have H16 := Lib.hid h16
  have f1 : IntKind.u16.wrap (L.length : Int) = L.length := by simp [IntKind.wrap, IntKind.bits, IntKind.signed]; omega
  clear hv h16 hln hc1 hc2 hs
  go_enter Try.func79, Try.ntmps79
  go_wp2_with (first
    | (refine wpList_new_row rfl 52 rfl (some 2) rfl 64 _ page_zero ?_; intro w1 G hG hr1 hb1; have HG := Lib.hid hG; have HR1 := Lib.hid hr1; have HB1 := Lib.hid hb1; clear hr1 hb1 hG)
    | (refine wpList_new_row rfl 52 rfl (some 3) rfl 64 _ page_zero ?_; intro w2 B hB hr2 hb2; have HGB := Lib.hid (Nat.ne_of_lt (Nat.lt_of_lt_of_le HR1.out.lt hB)); have HBW := Lib.hid (Nat.le_trans HB1.out.size hB); have HR2 := Lib.hid (rowIs_below HR1.out hb2); have HB2 := Lib.hid (bnext HB1.out hb2); have HQ2 := Lib.hid hr2; clear hr2 hb2 hB))
  refine (walPut2_in HQ2.out 0 26529 (by omega) (by omega)).mono ?_
  rintro e w3 ⟨rfl, hq3, o3⟩
  have HQ3 := Lib.hid hq3
  have HR3 := Lib.hid (rowIs_one HR2.out o3 HGB.out)
  have HB3 := Lib.hid (bone HB2.out o3 HBW.out HB2.out.size)
  clear hq3 o3
  go_wp2_with fail
  refine (walPut2_in HQ3.out 2 L.length (by omega) (by omega)).mono ?_
  rintro e w4 ⟨rfl, hq4, o4⟩
  rw [headTo_zero] at hq4
  have HQ4 := Lib.hid hq4
  have HR4 := Lib.hid (rowIs_one HR3.out o4 HGB.out)
  have HB4 := Lib.hid (bone HB3.out o4 HBW.out HB3.out.size)
  clear hq4 o4
  go_wp2_with fail
  go_loopw [13] (fun r wx => ∃ k : Nat, k ≤ L.length ∧ r = .int .i64 k ∧ wx.rowIs B 52 64 (pgC (headTo L k)) ∧ wx.rowIs G 52 64 (pgC fun _ => 0) ∧ Below w.heap.size w wx) (fun r _ => L.length - (intOf r).toNat)
  case atStart => exact ⟨0, Nat.zero_le _, rfl, HQ4.out, HR4.out, HB4.out⟩
  case round =>
    obtain ⟨k, hk, rfl, hq, hr, hb⟩ := hrel
    have HQ := Lib.hid hq
    have HR := Lib.hid hr
    have HB := Lib.hid hb
    clear hq hr hb
    by_cases hkl : k < L.length
    · have f2 : (k : Int) < L.length := by omega
      obtain ⟨g, off, rfl, hg, hc⟩ := (HS.out.keep HB.out).at (by omega)
      obtain ⟨x, hx⟩ : ∃ x, x = L.getD k 0 := ⟨_, rfl⟩
      have hxm : L.getD k 0 ∈ L := by rw [List.getD_eq_getElem?_getD, List.getElem?_eq_getElem hkl]; exact List.getElem_mem hkl
      have hx16 : x ≤ 65535 := by rw [hx]; exact H16.out _ hxm
      have c1 : wr.cell? ⟨g, off + k, none⟩ = some (.int .i64 x) := by
        rw [hc k (by omega), hx]
        simp [natInts, List.getD_eq_getElem?_getD, List.getElem?_eq_getElem hkl]
      have f3 : IntKind.u16.wrap (x : Int) = x := by simp [IntKind.wrap, IntKind.bits, IntKind.signed]; omega
      have HX := Lib.hid hx
      clear hc hg hx hxm
      go_wp2_with fail
      rw [show (4 : Int) + 2 * (k : Int) = ((4 + 2 * k : Nat) : Int) by omega]
      refine (walPut2_in HQ.out (4 + 2 * k) x (by omega) hx16).mono ?_
      rintro e w5 ⟨rfl, hq5, o5⟩
      rw [HX.out, headTo_next] at hq5
      have HQ5 := Lib.hid hq5
      have HR5 := Lib.hid (rowIs_one HR.out o5 HGB.out)
      have HB5 := Lib.hid (bone HB.out o5 HBW.out HB.out.size)
      clear hq5 o5
      go_wp2_with fail
      go_roundw
      case rel => exact ⟨k + 1, by omega, by go_num, HQ5.out, HR5.out, HB5.out⟩
      case measure => simp [intOf]; omega
    · obtain rfl : k = L.length := by omega
      go_wp2_with (first
        | (refine wpList_row_load (by kernel_rfl) 52 (.tmp 3) rfl (some 25) rfl B 64 (pgC (logB L)) (by go_simp) HQ.out _ block_under rfl block_size ?_)
        | (refine wpList_row_store rfl 52 (.tmp 2) (.tmp 25) rfl rfl G 64 _ (pgC (logB L)) (by go_simp) (by go_simp) HR.out (fun _ _ => rfl) block_size ?_; intro w5 hr5 o5; have HB5 := Lib.hid (bone HB.out o5 HG.out HB.out.size); have HR5 := Lib.hid hr5; clear hr5 o5))
      have hrun := run_load_row (P := Try.prog) HR5.out _ block_under rfl block_size
      exact bodyPost_ret (v := pageV (logB L)) (by simp [results, Try.results79, Act.put, asAddr, hrun, pageV_eq]) rfl ⟨rfl, HB5.out⟩
end
end Go.Proofs.Ytonfnlohbgbffaa
