/- Memory of a process: a number loaded. -/
import Derived.Test.YtapcbfeifeobhaaSpcI
import Derived.Lib.EndianBits
set_option linter.unusedVariables false
set_option linter.unusedSimpArgs false
namespace Go.Proofs.Ytapcbfeifeobhaa
open Go.RowKit

/-- The number of so many bytes, the lowest first. -/
def ldN (mem : Nat → Nat) (at_ : Nat) : Nat → Nat
  | 0 => 0
  | k + 1 => ldN mem at_ k + mem (at_ + k) * 256 ^ k
theorem ldN_lt {mem : Nat → Nat} {at_ : Nat} : ∀ k, (∀ i, i < k → mem (at_ + i) < 256) → ldN mem at_ k < 256 ^ k
  | 0, _ => by simp [ldN]
  | k + 1, h => by
    have h1 := ldN_lt k (fun i hi => h i (by omega))
    have h2 := h k (by omega)
    have h3 : mem (at_ + k) * 256 ^ k ≤ 255 * 256 ^ k := Nat.mul_le_mul_right _ (by omega)
    show ldN mem at_ k + mem (at_ + k) * 256 ^ k < 256 ^ (k + 1)
    rw [Nat.pow_succ]
    omega
theorem orStep (x y j : Nat) (hj : j < 4) (hx : x < 256 ^ j) (hy : y < 256) : bits .or .u32 (x : Int) (IntKind.u32.wrap ((y : Int) * 2 ^ (((8 * j : Nat) : Int)).toNat)) = ((x + y * 256 ^ j : Nat) : Int) := by
  rcases (show j = 0 ∨ j = 1 ∨ j = 2 ∨ j = 3 by omega) with rfl | rfl | rfl | rfl
  · obtain rfl : x = 0 := by simpa using hx
    have h := or_zero y hy
    have e : IntKind.u32.wrap ((y : Int) * 2 ^ (((8 * 0 : Nat) : Int)).toNat) = y := by simp [IntKind.wrap, IntKind.bits, IntKind.signed]; omega
    rw [e, show (((0 : Nat) : Int)) = 0 from rfl, h]
    simp
  · have e : IntKind.u32.wrap ((y : Int) * 2 ^ (((8 * 1 : Nat) : Int)).toNat) = y * 256 := by simp [IntKind.wrap, IntKind.bits, IntKind.signed]; omega
    rw [e, u32_or8 (x : Int) ((y : Int) * 256) (by omega) (by omega) (by omega) (by omega) (by omega)]
    omega
  · have e : IntKind.u32.wrap ((y : Int) * 2 ^ (((8 * 2 : Nat) : Int)).toNat) = y * 65536 := by simp [IntKind.wrap, IntKind.bits, IntKind.signed]; omega
    rw [e, u32_or16 (x : Int) ((y : Int) * 65536) (by omega) (by omega) (by omega) (by omega) (by omega)]
    omega
  · have e : IntKind.u32.wrap ((y : Int) * 2 ^ (((8 * 3 : Nat) : Int)).toNat) = y * 16777216 := by simp [IntKind.wrap, IntKind.bits, IntKind.signed]; omega
    rw [e, u32_or24 (x : Int) ((y : Int) * 16777216) (by omega) (by omega) (by omega) (by omega) (by omega)]
    omega
section
variable {w w' : World} {base gs g gm lab : Nat} {ps : List (Nat × Nat)} {v : Value} {a : Option Addr} {us : Nat → Nat} {F : Nat × Nat → Option (Nat → Nat)}
set_option maxRecDepth 100000 in
set_option maxHeartbeats 4000000 in
theorem spaceLoad_val (ht : FP w g gm a us F) (hs : SpV w base gs g lab ps v) (ok : SpOk F ps) (at_ k : Nat) (ha : at_ ≤ 4294967295) (hk4 : k ≤ 4) (hi : at_ + k ≤ 64 * ps.length) (h255 : ∀ i, i < 64 * ps.length → spMem F ps i < 256) :
    Calls Try.prog 37 #[.pointer (some ⟨gs, 0, none⟩), .int .u32 at_, .int .i64 k] w fun e w' => e = .returned (.tuple #[.int .u32 (ldN (spMem F ps) at_ k : Nat), .int .i64 0]) ∧ Below w.heap.size w w' := by
  have h := spaceInside_in hs ok.len at_ ha k (by have := ok.len; omega) (by omega)
  rw [insideB_nat, decide_eq_true hi] at h
  have H := Lib.hid h
  have ha2 : at_ ≤ 2048 := by have := ok.len; omega
  have HT := Lib.hid ht
  have HS := Lib.hid hs
  have HO := Lib.hid ok
  have HI := Lib.hid hi
  have H255 := Lib.hid h255
  clear h hs ht ok hi h255
  rcases (show k < 4 ∨ k = 4 by omega) with h4 | h4
  · have h4' : (k : Int) < 4 := by omega
    have h4'' : (k : Int) ≤ 4 := by omega
    go_enter Try.func37, Try.ntmps37
    go_wp2_with fail
    refine H.out.mono ?_; rintro e w2 ⟨rfl, rfl⟩
    go_wp2_with fail
    go_loopw [8, 17] (fun s r wx => ∃ (j : Nat), j ≤ k ∧ s = .int .u32 (ldN (spMem F ps) at_ j : Nat) ∧ r = .int .i64 j ∧ Below w.heap.size w wx) (fun _ r _ => k - (intOf r).toNat)
    case atStart => exact ⟨0, by omega, rfl, rfl, Below.refl _ _⟩
    case round =>
      obtain ⟨j, hj, rfl, rfl, hb⟩ := hrel
      have HB := Lib.hid hb
      clear hb
      obtain ⟨x, hx⟩ : ∃ x, x = ldN (spMem F ps) at_ j := ⟨_, rfl⟩
      have hlt : x < 256 ^ j := by rw [hx]; exact ldN_lt j (fun i hi => H255.out _ (by have := HI.out; omega))
      rw [← hx]
      have HXX := Lib.hid hx
      have HLT := Lib.hid hlt
      clear hx hlt
      by_cases hjn : j < k
      · have f1 : (j : Int) < k := by omega
        have f2 : IntKind.i64.wrap (at_ : Int) = at_ := by rw [IntKind.wrap_i64]; omega
        have f3 : IntKind.i64.wrap ((at_ : Int) + j) = ((at_ + j : Nat) : Int) := by rw [IntKind.wrap_i64]; omega
        have f4 : IntKind.i64.wrap (8 * (j : Int)) = ((8 * j : Nat) : Int) := by rw [IntKind.wrap_i64]; omega
        have f5 : ¬ (((8 * j : Nat) : Int) < 0) := by omega
        have hby := spaceByte_in (HT.out.keep HB.out) (HS.out.keep HB.out) HO.out (at_ + j) (by have := HI.out; omega)
        have HBY := Lib.hid hby
        clear hby
        go_wp2_with fail
        refine HBY.out.mono ?_; rintro e w3 ⟨rfl, hb3⟩
        have HB3 := Lib.hid (HB.out.trans (hb3.mono HB.out.size))
        obtain ⟨y, hy⟩ : ∃ y, y = spMem F ps (at_ + j) := ⟨_, rfl⟩
        have hy255 : y < 256 := by rw [hy]; exact H255.out _ (by have := HI.out; omega)
        have HOR := Lib.hid (orStep x y j (by omega) HLT.out hy255)
        have HY := Lib.hid hy
        rw [← hy]
        clear hb3 hy
        go_wp2_with fail
        go_roundw
        case rel =>
          refine ⟨j + 1, by omega, ?_, by go_num, HB3.out⟩
          show _ = Value.int .u32 ((ldN (spMem F ps) at_ j + spMem F ps (at_ + j) * 256 ^ j : Nat) : Int)
          rw [← HXX.out, ← HY.out]
          exact congrArg (Value.int .u32) HOR.out
        case measure => simp [intOf]; omega
      · obtain rfl : j = k := by omega
        have f1 : ¬ ((j : Int) < j) := by omega
        go_wp2_with fail
        go_ret2
        exact ⟨by rw [HXX.out]; rfl, HB.out⟩
  · subst h4
    go_enter Try.func37, Try.ntmps37
    go_wp2_with fail
    refine H.out.mono ?_; rintro e w2 ⟨rfl, rfl⟩
    go_wp2_with fail
    go_loopw [8, 17] (fun s r wx => ∃ (j : Nat), j ≤ 4 ∧ s = .int .u32 (ldN (spMem F ps) at_ j : Nat) ∧ r = .int .i64 j ∧ Below w.heap.size w wx) (fun _ r _ => 4 - (intOf r).toNat)
    case atStart => exact ⟨0, by omega, rfl, rfl, Below.refl _ _⟩
    case round =>
      obtain ⟨j, hj, rfl, rfl, hb⟩ := hrel
      have HB := Lib.hid hb
      clear hb
      obtain ⟨x, hx⟩ : ∃ x, x = ldN (spMem F ps) at_ j := ⟨_, rfl⟩
      have hlt : x < 256 ^ j := by rw [hx]; exact ldN_lt j (fun i hi => H255.out _ (by have := HI.out; omega))
      rw [← hx]
      have HXX := Lib.hid hx
      have HLT := Lib.hid hlt
      clear hx hlt
      by_cases hjn : j < 4
      · have f1 : (j : Int) < 4 := by omega
        have f2 : IntKind.i64.wrap (at_ : Int) = at_ := by rw [IntKind.wrap_i64]; omega
        have f3 : IntKind.i64.wrap ((at_ : Int) + j) = ((at_ + j : Nat) : Int) := by rw [IntKind.wrap_i64]; omega
        have f4 : IntKind.i64.wrap (8 * (j : Int)) = ((8 * j : Nat) : Int) := by rw [IntKind.wrap_i64]; omega
        have f5 : ¬ (((8 * j : Nat) : Int) < 0) := by omega
        have hby := spaceByte_in (HT.out.keep HB.out) (HS.out.keep HB.out) HO.out (at_ + j) (by have := HI.out; omega)
        have HBY := Lib.hid hby
        clear hby
        go_wp2_with fail
        refine HBY.out.mono ?_; rintro e w3 ⟨rfl, hb3⟩
        have HB3 := Lib.hid (HB.out.trans (hb3.mono HB.out.size))
        obtain ⟨y, hy⟩ : ∃ y, y = spMem F ps (at_ + j) := ⟨_, rfl⟩
        have hy255 : y < 256 := by rw [hy]; exact H255.out _ (by have := HI.out; omega)
        have HOR := Lib.hid (orStep x y j (by omega) HLT.out hy255)
        have HY := Lib.hid hy
        rw [← hy]
        clear hb3 hy
        go_wp2_with fail
        go_roundw
        case rel =>
          refine ⟨j + 1, by omega, ?_, by go_num, HB3.out⟩
          show _ = Value.int .u32 ((ldN (spMem F ps) at_ j + spMem F ps (at_ + j) * 256 ^ j : Nat) : Int)
          rw [← HXX.out, ← HY.out]
          exact congrArg (Value.int .u32) HOR.out
        case measure => simp [intOf]; omega
      · obtain rfl : j = 4 := by omega
        skip
        go_wp2_with fail
        go_ret2
        exact ⟨by rw [HXX.out]; rfl, HB.out⟩
end
end Go.Proofs.Ytapcbfeifeobhaa
