/- Nodes: their bytes: put, get. -/
import Derived.Test.YtonfnlohbgbffaaChg
import Derived.Test.YtonfnlohbgbffaaNodeB
import Derived.Lib.EndianBits
set_option linter.unusedVariables false
set_option linter.unusedSimpArgs false
namespace Go.Proofs.Ytonfnlohbgbffaa
open Go.RowKit

def fldF (bf : Nat → Nat) (at_ : Nat) (i : Nat) : Value := if i = 32 then .int .i64 at_ else .int .u8 (bf i)
/-- A field: 32 bytes, and a place. -/
abbrev FL (w : World) (x : Nat) (bf : Nat → Nat) (at_ : Nat) : Prop := w.rowIs x 130 33 (fldF bf at_)
def putB (bf : Nat → Nat) (at_ k n : Nat) (i : Nat) : Nat := if at_ ≤ i ∧ i < at_ + k then n / 256 ^ (i - at_) % 256 else bf i
def getB (bf : Nat → Nat) (at_ : Nat) : Nat → Nat
  | 0 => 0
  | k + 1 => getB bf at_ k + bf (at_ + k) * 256 ^ k
theorem putB_zero (bf : Nat → Nat) (a n : Nat) : putB bf a 0 n = bf := by
  funext i; unfold putB; rw [if_neg (by omega)]
theorem putB_next (bf : Nat → Nat) (a k n i : Nat) : putB bf a (k + 1) n i = if i = a + k then n / 256 ^ k % 256 else putB bf a k n i := by
  unfold putB
  by_cases h : i = a + k
  · subst h
    rw [if_pos (by omega), if_pos rfl, Nat.add_sub_cancel_left]
  · rw [if_neg h]
    by_cases h2 : a ≤ i ∧ i < a + k
    · rw [if_pos (by omega), if_pos h2]
    · rw [if_neg (by omega), if_neg h2]
theorem fldF_byte (bf bf' : Nat → Nat) (at_ b j : Nat) (hj : j < 32) (h : ∀ i, bf' i = if i = j then b else bf i) (i : Nat) (hi : i < 33) : (if i = j then Value.int .u8 b else fldF bf at_ i) = fldF bf' at_ i := by
  unfold fldF
  by_cases h1 : i = j
  · rw [if_pos h1, if_neg (by omega), h, if_pos h1]
  · rw [if_neg h1, h, if_neg h1]
theorem fldF_at (bf : Nat → Nat) (at_ a' i : Nat) : (if i = 32 then Value.int .i64 a' else fldF bf at_ i) = fldF bf a' i := by
  unfold fldF
  by_cases h1 : i = 32
  · rw [if_pos h1, if_pos h1]
  · rw [if_neg h1, if_neg h1, if_neg h1]
theorem u32_or0 (x : Int) (h0 : 0 ≤ x) (h1 : x < 4294967296) : bits .or .u32 0 x = x := by
  have := bits_join_low .u32 32 (by decide) wraps_u32 0 0 x (by omega) (by omega) (by omega) h0 (by omega) h1
  rw [this]; omega
theorem one_below {w w' : World} {r : Option Nat} (h : Below w.heap.size w w') : One w w' r := ⟨h.os, h.tape, h.output, h.size, fun k hk _ => h.block k hk⟩
section
variable {w w' : World} {x : Nat} {bf : Nat → Nat} {at_ : Nat}
set_option maxRecDepth 20000 in
set_option maxHeartbeats 4000000 in
theorem nodePut_in (h : FL w x bf at_) (n k : Nat) (hn : n < 4294967296) (hk : k ≤ 4) (ha : at_ + k ≤ 32) :
    Calls Try.prog 65 #[.pointer (some ⟨x, 0, none⟩), .int .u32 n, .int .i64 k] w fun e w' => e = .returned (.tuple #[]) ∧ FL w' x (putB bf at_ k n) (at_ + k) ∧ One w w' (some x) := by
  have HF := Lib.hid h
  clear h
  go_enter Try.func65, Try.ntmps65
  go_wp2_with fail
  go_loopw [1, 7] (fun r1 r wx => ∃ i : Nat, i ≤ k ∧ r = .int .i64 i ∧ r1 = .int .u32 ((n / 256 ^ i : Nat) : Int) ∧ FL wx x (putB bf at_ i n) (at_ + i) ∧ One w wx (some x)) (fun _ r _ => k - (intOf r).toNat)
  case atStart => exact ⟨0, Nat.zero_le _, rfl, by simp, by rw [putB_zero]; exact HF.out, One.refl _ _⟩
  case round =>
    obtain ⟨i, hi, rfl, rfl, hf, ho⟩ := hrel
    have HFR := Lib.hid hf
    have HO := Lib.hid ho
    by_cases hik : i < k
    · have f1 : (i : Int) < k := by omega
      obtain ⟨m, hm⟩ : ∃ m, m = n / 256 ^ i := ⟨_, rfl⟩
      rw [← hm]
      have HM := Lib.hid hm
      have hm4 : m < 4294967296 := by rw [hm]; exact Nat.lt_of_le_of_lt (Nat.div_le_self _ _) hn
      have c32 : wr.cell? ⟨x, 32, none⟩ = some (.int .i64 ((at_ + i : Nat) : Int)) := hf.cell (i := 32) (by omega)
      have cb : wr.cell? ⟨x, at_ + i, none⟩ = some (.int .u8 (putB bf at_ i n (at_ + i))) := by rw [hf.cell (i := at_ + i) (by omega)]; unfold fldF; rw [if_neg (by omega)]
      have df := hf.frozen
      have f2 : IntKind.u8.wrap (m : Int) = ((m % 256 : Nat) : Int) := by simp [IntKind.wrap, IntKind.bits, IntKind.signed]
      have f3 : ((at_ + i : Nat) : Int) < 32 := by omega
      obtain ⟨p, hp⟩ : ∃ p, p = at_ + i := ⟨_, rfl⟩
      rw [← hp] at c32 cb f3
      have HP := Lib.hid hp
      have hp32 : p < 32 := by omega
      clear hf ho hm hp
      go_wp2_with fail
      refine wp_region_still_tail 9 (by kernel_rfl) (by kernel_rfl) ?_
      simp only [List.take_succ_cons, List.take_zero, List.drop_succ_cons, List.drop_zero]
      change wpStill _ _ (World.drew wr) _ _ _
      iterate 9 still_step
      refine wpStill_nil ?_
      change wpList _ _ _ _ _ (World.drew wr)
      go_wp2_with fail
      have e1 : ((m : Int) % 256) = ((m % 256 : Nat) : Int) := by omega
      have e2 : ((p : Int) + 1) = ((p + 1 : Nat) : Int) := by omega
      have e3 : ((m : Int) / 256) = ((m / 256 : Nat) : Int) := by omega
      rw [e1, e2, e3]
      have hA := ((HFR.out.set p (.int .u8 ((m % 256 : Nat) : Int))).congr (fun j hj => fldF_byte _ (putB bf at_ (i + 1) n) (at_ + i) (m % 256) p hp32 (fun q => by rw [putB_next, HP.out, HM.out]) j hj)).set 32 (.int .i64 ((p + 1 : Nat) : Int))
      have hB := hA.congr (fun j hj => fldF_at (putB bf at_ (i + 1) n) (at_ + i) (p + 1) j)
      have oA := (HO.out.trans (one_setCell wr x p (.int .u8 ((m % 256 : Nat) : Int)))).trans (one_setCell _ x 32 (.int .i64 ((p + 1 : Nat) : Int)))
      refine ⟨⟨i + 1, by omega, by go_num, ?_, ?_, ?_⟩, by simp [intOf]; omega⟩
      · rw [HM.out, Nat.pow_succ, Nat.div_div_eq_div_mul]
      · have := hB.of_block ((drewb _).block _ hB.lt)
        rw [HP.out] at this ⊢
        exact this
      · exact oA.trans (one_below (drewb _))
    · obtain rfl : i = k := by omega
      have f1 : ¬ ((i : Int) < i) := by omega
      clear hf ho
      go_wp2_with fail
      go_end0
      exact ⟨rfl, HFR.out, HO.out⟩
theorem getB_lt (hb : ∀ i, bf i ≤ 255) (a : Nat) : ∀ k, getB bf a k < 256 ^ k
  | 0 => by simp [getB]
  | k + 1 => by
    have h1 := getB_lt hb a k
    have h2 := hb (a + k)
    unfold getB
    rw [Nat.pow_succ]
    have h3 : bf (a + k) * 256 ^ k ≤ 255 * 256 ^ k := Nat.mul_le_mul_right _ h2
    omega
set_option maxRecDepth 20000 in
set_option maxHeartbeats 4000000 in
theorem nodeGet_in (h : FL w x bf at_) (hb : ∀ i, bf i ≤ 255) (k : Nat) (hk : k ≤ 4) (ha : at_ + k ≤ 32) :
    Calls Try.prog 66 #[.pointer (some ⟨x, 0, none⟩), .int .i64 k] w fun e w' => e = .returned (.int .u32 (getB bf at_ k)) ∧ FL w' x bf (at_ + k) ∧ One w w' (some x) := by
  have HF := Lib.hid h
  have HBB := Lib.hid hb
  clear h hb
  go_enter Try.func66, Try.ntmps66
  go_wp2_with fail
  go_loopw [5, 8] (fun r5 r wx => ∃ i : Nat, i ≤ k ∧ r = .int .i64 i ∧ r5 = .int .u32 (getB bf at_ i) ∧ FL wx x bf (at_ + i) ∧ One w wx (some x)) (fun _ r _ => k - (intOf r).toNat)
  case atStart => exact ⟨0, Nat.zero_le _, rfl, rfl, HF.out, One.refl _ _⟩
  case round =>
    obtain ⟨i, hi, rfl, rfl, hf, ho⟩ := hrel
    have HFR := Lib.hid hf
    have HO := Lib.hid ho
    by_cases hik : i < k
    · have f1 : (i : Int) < k := by omega
      have c32 : wr.cell? ⟨x, 32, none⟩ = some (.int .i64 ((at_ + i : Nat) : Int)) := hf.cell (i := 32) (by omega)
      have cb : wr.cell? ⟨x, at_ + i, none⟩ = some (.int .u8 (bf (at_ + i))) := by rw [hf.cell (i := at_ + i) (by omega)]; unfold fldF; rw [if_neg (by omega)]
      have df := hf.frozen
      have f3 : ((at_ + i : Nat) : Int) < 32 := by omega
      obtain ⟨p, hp⟩ : ∃ p, p = at_ + i := ⟨_, rfl⟩
      have hpk : at_ + i + 1 = at_ + (i + 1) := rfl
      have hget : getB bf at_ (i + 1) = getB bf at_ i + bf p * 256 ^ i := by rw [hp]; rfl
      rw [← hp] at c32 cb f3
      have HP := Lib.hid hp
      have hp32 : p < 32 := by omega
      obtain ⟨y, hy⟩ : ∃ y, y = getB bf at_ i := ⟨_, rfl⟩
      have hyl : y < 256 ^ i := by rw [hy]; exact getB_lt HBB.out _ _
      rw [← hy] at hget
      rw [← hy]
      obtain ⟨b, hbe⟩ : ∃ b, b = bf p := ⟨_, rfl⟩
      have hb5 : b ≤ 255 := by rw [hbe]; exact HBB.out p
      rw [← hbe] at hget cb
      have HG := Lib.hid hget
      clear hf ho hp hget hpk hy hbe
      have FIN := Lib.hid (show ∀ nq, FL ((wr.drewN nq).setCell ⟨x, 32, none⟩ (.int .i64 ((p : Int) + 1))) x bf (at_ + (i + 1)) ∧ One w ((wr.drewN nq).setCell ⟨x, 32, none⟩ (.int .i64 ((p : Int) + 1))) (some x) from fun nq => by
        have hbq := bdrewN (Below.refl wr.heap.size wr) nq
        have hA := (HFR.out.of_block (hbq.block _ HFR.out.lt)).set 32 (.int .i64 ((p + 1 : Nat) : Int))
        have hB := hA.congr (fun j hj => fldF_at bf (at_ + i) (p + 1) j)
        rw [show ((p : Int) + 1) = ((p + 1 : Nat) : Int) by omega]
        refine ⟨?_, (HO.out.trans (one_below hbq)).trans (one_setCell _ x 32 (.int .i64 ((p + 1 : Nat) : Int)))⟩
        rw [HP.out] at hB ⊢
        exact hB)
      rcases (show i = 0 ∨ i = 1 ∨ i = 2 ∨ i = 3 by omega) with rfl | rfl | rfl | rfl
      · have hg := HG.out
        have hy2 : y < 1 := by simpa using hyl
        go_wp2_with fail
        go_quiet (fail)
        go_wp2_with fail
        refine ⟨⟨1, by omega, rfl, ?_, (FIN.out nq).1, (FIN.out nq).2⟩, by simp [intOf]; omega⟩
        rw [show getB bf at_ 1 = y + b * 1 by rw [hg]]
        obtain rfl : y = 0 := by omega
        rw [show ((0 : Nat) : Int) = 0 from rfl, u32_or0 (b : Int) (by omega) (by omega)]
        simp
      · have hg := HG.out
        have hy2 : y < 256 := by simpa using hyl
        go_wp2_with fail
        go_quiet (fail)
        go_wp2_with fail
        refine ⟨⟨2, by omega, rfl, ?_, (FIN.out nq).1, (FIN.out nq).2⟩, by simp [intOf]; omega⟩
        rw [show getB bf at_ 2 = y + b * 256 by rw [hg]]
        rw [u32_or8 (y : Int) ((b : Int) * 256) (by omega) (by omega) (by omega) (by omega) (by omega)]
        simp
      · have hg := HG.out
        have hy2 : y < 65536 := by simpa using hyl
        go_wp2_with fail
        go_quiet (fail)
        go_wp2_with fail
        refine ⟨⟨3, by omega, rfl, ?_, (FIN.out nq).1, (FIN.out nq).2⟩, by simp [intOf]; omega⟩
        rw [show getB bf at_ 3 = y + b * 65536 by rw [hg]]
        rw [u32_or16 (y : Int) ((b : Int) * 65536) (by omega) (by omega) (by omega) (by omega) (by omega)]
        simp
      · have hg := HG.out
        have hy2 : y < 16777216 := by simpa using hyl
        go_wp2_with fail
        go_quiet (fail)
        go_wp2_with fail
        refine ⟨⟨4, by omega, rfl, ?_, (FIN.out nq).1, (FIN.out nq).2⟩, by simp [intOf]; omega⟩
        rw [show getB bf at_ 4 = y + b * 16777216 by rw [hg]]
        rw [u32_or24 (y : Int) ((b : Int) * 16777216) (by omega) (by omega) (by omega) (by omega) (by omega)]
        simp
    · obtain rfl : i = k := by omega
      have f1 : ¬ ((i : Int) < i) := by omega
      clear hf ho
      go_wp2_with fail
      go_ret
      exact ⟨rfl, HFR.out, HO.out⟩
end
end Go.Proofs.Ytonfnlohbgbffaa
