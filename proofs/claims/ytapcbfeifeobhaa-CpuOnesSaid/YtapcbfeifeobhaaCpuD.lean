/- The machine's numbers: of two numbers one; turns, leading noughts, ones. -/
import Derived.Test.YtapcbfeifeobhaaBase
import Derived.Laws.BitsLemmas
import Derived.Lib.BitFns
set_option linter.unusedVariables false
set_option linter.unusedSimpArgs false
namespace Go.Proofs.Ytapcbfeifeobhaa
open Go.RowKit
theorem truth_any (b : Bool) (w : World) : Calls Try.prog 58 #[.bool b] w fun e w' => e = .returned (.int .u32 (if b then 1 else 0)) ∧ w = w' := by
  cases b
  all_goals
    go_enter Try.func58, Try.ntmps58
    go_wp2_with fail
    go_ret
    exact ⟨rfl, rfl⟩
theorem and31 (b : Int) (h0 : 0 ≤ b) (h1 : b ≤ 4294967295) : bits .and .u32 b 31 = b % 32 := bits_mask .u32 32 (by decide) (fun n h0 h1 => by simp [IntKind.wrap, IntKind.bits, IntKind.signed]; omega) 5 (by decide) b h0 (by omega)
theorem and31l (b : Int) (h0 : 0 ≤ b) (h1 : b ≤ 31) : bits .and .u64 b 31 = b := by
  rw [show bits .and .u64 b 31 = b % 32 from bits_mask .u64 64 (by decide) (fun n h0 h1 => by simp [IntKind.wrap, IntKind.bits, IntKind.signed]; omega) 5 (by decide) b h0 (by omega)]
  omega
def rotI (a c : Int) : Int := bits .or .u32 (a * 2 ^ c.toNat % 4294967296) (a / 2 ^ (32 - c).toNat)
set_option maxHeartbeats 4000000 in
theorem rot_any (a c : Int) (ha : 0 ≤ a) (ha' : a ≤ 4294967295) (h0 : 0 ≤ c) (h1 : c ≤ 31) (w : World) : Calls Try.prog 57 #[.int .u32 a, .int .i64 c] w fun e w' => e = .returned (.int .u32 (rotI a c)) ∧ w = w' := by
  have e31 := and31l c h0 h1
  go_enter Try.func57, Try.ntmps57
  go_wp2
  go_ret
  exact ⟨rfl, rfl⟩
theorem pop8_le (b : Int) (h0 : 0 ≤ b) (h1 : b ≤ 255) : 0 ≤ Lib.pop8 b ∧ Lib.pop8 b ≤ 8 := by
  have h : Lib.pop8 ((b.toNat : Nat) : Int) = (Lib.onesCount b.toNat : Int) := Lib.pop8_eq ⟨b.toNat, by omega⟩
  have h2 : Lib.onesCount b.toNat ≤ 8 := Lib.onesCount_le8 ⟨b.toNat, by omega⟩
  rw [Int.toNat_of_nonneg h0] at h
  omega
theorem len8_le (b : Int) (h0 : 0 ≤ b) (h1 : b ≤ 255) : 0 ≤ Lib.len8 b ∧ Lib.len8 b ≤ 8 := by
  have h := Lib.len8_of b h0 h1
  have h2 := Lib.bitLen_le8' b h0 h1
  omega
theorem and255 (b : Int) (h0 : 0 ≤ b) (h1 : b ≤ 4294967295) : bits .and .u32 b 255 = b % 256 := bits_mask .u32 32 (by decide) (fun n h0 h1 => by simp [IntKind.wrap, IntKind.bits, IntKind.signed]; omega) 8 (by decide) b h0 (by omega)
def popI (x : Int) : Int := Lib.pop8 (x / 16777216) + Lib.pop8 (x / 65536 % 256) + Lib.pop8 (x / 256 % 256) + Lib.pop8 (x % 256)
def lenI (x : Int) : Int := if 65536 ≤ x then (if 256 ≤ x / 65536 then 24 + Lib.len8 (x / 16777216) else 16 + Lib.len8 (x / 65536)) else if 256 ≤ x then 8 + Lib.len8 (x / 256) else Lib.len8 x
set_option maxHeartbeats 4000000 in
theorem pop32_any (x : Int) (h0 : 0 ≤ x) (h1 : x ≤ 4294967295) (w : World) : Calls Try.prog 63 #[.int .u32 x] w fun e w' => e = .returned (.int .i64 (popI x)) ∧ Below w.heap.size w w' := by
  have a1 := and255 (x / 65536) (by omega) (by omega)
  have a2 := and255 (x / 256) (by omega) (by omega)
  have a3 := and255 x (by omega) (by omega)
  unfold popI
  obtain ⟨y0, hy0⟩ : ∃ y, y = x / 16777216 := ⟨_, rfl⟩
  obtain ⟨y1, hy1⟩ : ∃ y, y = x / 65536 % 256 := ⟨_, rfl⟩
  obtain ⟨y2, hy2⟩ : ∃ y, y = x / 256 % 256 := ⟨_, rfl⟩
  obtain ⟨y3, hy3⟩ : ∃ y, y = x % 256 := ⟨_, rfl⟩
  rw [← hy1] at a1 ⊢
  rw [← hy2] at a2 ⊢
  rw [← hy3] at a3 ⊢
  rw [← hy0]
  have a0 : x / 16777216 = y0 := hy0.symm
  have l0 : 0 ≤ y0 := by omega
  have u0 : y0 ≤ 255 := by omega
  have l1 : 0 ≤ y1 := by omega
  have u1 : y1 ≤ 255 := by omega
  have l2 : 0 ≤ y2 := by omega
  have u2 : y2 ≤ 255 := by omega
  have l3 : 0 ≤ y3 := by omega
  have u3 : y3 ≤ 255 := by omega
  have p0 := pop8_le y0 l0 u0
  have p1 := pop8_le y1 l1 u1
  have p2 := pop8_le y2 l2 u2
  have p3 := pop8_le y3 l3 u3
  clear hy0 hy1 hy2 hy3
  go_enter Try.func63, Try.ntmps63
  go_wp2_with fail
  try go_region
  try go_wp2_with fail
  go_ret
  refine ⟨ret_int ?_, ?_⟩
  · try omega
  · first | exact Below.refl _ _ | exact bdrewN (Below.refl _ _) 1
set_option maxHeartbeats 4000000 in
theorem len32_any (x : Int) (h0 : 0 ≤ x) (h1 : x ≤ 4294967295) (w : World) : Calls Try.prog 68 #[.int .u32 x] w fun e w' => e = .returned (.int .i64 (lenI x)) ∧ Below w.heap.size w w' := by
  unfold lenI
  by_cases ha : 65536 ≤ x
  · rw [if_pos ha]
    by_cases hb : 256 ≤ x / 65536
    · rw [if_pos hb]
      obtain ⟨y, hy⟩ : ∃ y, y = x / 16777216 := ⟨_, rfl⟩
      have a0 : x / 65536 / 256 = y := by omega
      have a1 : x / 16777216 = y := hy.symm
      have l0 : 0 ≤ y := by omega
      have u0 : y ≤ 255 := by omega
      have a2 : y % 256 = y := by omega
      have p0 := len8_le y l0 u0
      rw [← hy]
      clear hy
      go_enter Try.func68, Try.ntmps68
      go_wp2_with fail
      try go_region
      try go_wp2_with fail
      go_ret
      refine ⟨ret_int ?_, ?_⟩
      · try omega
      · first | exact Below.refl _ _ | exact bdrewN (Below.refl _ _) 1
    · rw [if_neg hb]
      obtain ⟨y, hy⟩ : ∃ y, y = x / 65536 := ⟨_, rfl⟩
      have a0 : x / 65536 = y := hy.symm
      have l0 : 0 ≤ y := by omega
      have u0 : y ≤ 255 := by omega
      have a2 : y % 256 = y := by omega
      have p0 := len8_le y l0 u0
      rw [← hy]
      clear hy
      go_enter Try.func68, Try.ntmps68
      go_wp2_with fail
      try go_region
      try go_wp2_with fail
      go_ret
      refine ⟨ret_int ?_, ?_⟩
      · try omega
      · first | exact Below.refl _ _ | exact bdrewN (Below.refl _ _) 1
  · rw [if_neg ha]
    by_cases hb : 256 ≤ x
    · rw [if_pos hb]
      obtain ⟨y, hy⟩ : ∃ y, y = x / 256 := ⟨_, rfl⟩
      have a0 : x / 256 = y := hy.symm
      have l0 : 0 ≤ y := by omega
      have u0 : y ≤ 255 := by omega
      have a2 : y % 256 = y := by omega
      have p0 := len8_le y l0 u0
      rw [← hy]
      clear hy
      go_enter Try.func68, Try.ntmps68
      go_wp2_with fail
      try go_region
      try go_wp2_with fail
      go_ret
      refine ⟨ret_int ?_, ?_⟩
      · try omega
      · first | exact Below.refl _ _ | exact bdrewN (Below.refl _ _) 1
    · rw [if_neg hb]
      have u0 : x ≤ 255 := by omega
      have a2 : x % 256 = x := by omega
      have p0 := len8_le x h0 u0
      go_enter Try.func68, Try.ntmps68
      go_wp2_with fail
      try go_region
      try go_wp2_with fail
      go_ret
      refine ⟨ret_int ?_, ?_⟩
      · try omega
      · first | exact Below.refl _ _ | exact bdrewN (Below.refl _ _) 1
theorem popI_le (x : Int) (h0 : 0 ≤ x) (h1 : x ≤ 4294967295) : 0 ≤ popI x ∧ popI x ≤ 32 := by
  have p0 := pop8_le (x / 16777216) (by omega) (by omega)
  have p1 := pop8_le (x / 65536 % 256) (by omega) (by omega)
  have p2 := pop8_le (x / 256 % 256) (by omega) (by omega)
  have p3 := pop8_le (x % 256) (by omega) (by omega)
  unfold popI
  omega
theorem lenI_le (x : Int) (h0 : 0 ≤ x) (h1 : x ≤ 4294967295) : 0 ≤ lenI x ∧ lenI x ≤ 32 := by
  unfold lenI
  split
  · split
    · have := len8_le (x / 16777216) (by omega) (by omega); omega
    · have := len8_le (x / 65536) (by omega) (by omega); omega
  · split
    · have := len8_le (x / 256) (by omega) (by omega); omega
    · have := len8_le x (by omega) (by omega); omega
theorem clz32_any (x : Int) (h0 : 0 ≤ x) (h1 : x ≤ 4294967295) (w : World) : Calls Try.prog 62 #[.int .u32 x] w fun e w' => e = .returned (.int .i64 (32 - lenI x)) ∧ Below w.heap.size w w' := by
  have h := len32_any x h0 h1 w
  have hl := lenI_le x h0 h1
  obtain ⟨y, hy⟩ : ∃ y, y = lenI x := ⟨_, rfl⟩
  rw [← hy] at h hl ⊢
  have H := Lib.hid h
  clear h hy
  go_enter Try.func62, Try.ntmps62
  go_wp2_with fail
  refine H.out.mono ?_
  rintro e w1 ⟨rfl, hb⟩
  have HB := Lib.hid hb
  clear hb
  go_wp2_with fail
  go_ret
  exact ⟨ret_int (by first | rfl | (simp [IntKind.wrap, IntKind.bits, IntKind.signed, wrap64]; omega)), HB.out⟩
/-- Of two numbers one; an error's number. -/
def numI (o : Nat) (a b : Int) : Int × Int :=
  if o = 5 then ((a + b) % 4294967296, 0) else if o = 6 then ((a - b) % 4294967296, 0) else if o = 7 then (a * b % 4294967296, 0)
  else if o = 11 then (bits .and .u32 a b, 0) else if o = 12 then (bits .or .u32 a b, 0) else if o = 13 then (bits .xor .u32 a b, 0)
  else if o = 14 then (a * 2 ^ (b % 32).toNat % 4294967296, 0) else if o = 15 then (a / 2 ^ (b % 32).toNat, 0) else if o = 16 then (wrap32 a / 2 ^ (b % 32).toNat % 4294967296, 0)
  else if o = 17 then (rotI a (b % 32), 0) else if o = 18 then (if wrap32 a < wrap32 b then 1 else 0, 0) else if o = 19 then (if a < b then 1 else 0, 0) else if o = 20 then (if a = b then 1 else 0, 0)
  else if b = 0 then (0, 31) else if o = 8 then (a / b, 0) else if o = 9 then (a % b, 0) else (wrap64 ((wrap64 (wrap32 a)).tdiv (wrap64 (wrap32 b))) % 4294967296, 0)
theorem div_bounds (a b : Int) (ha : 0 ≤ a) (ha' : a ≤ 4294967295) (hb : 0 < b) : 0 ≤ a / b ∧ a / b ≤ 4294967295 :=
  ⟨Int.ediv_nonneg ha (by omega), Int.le_trans (Int.ediv_le_self b ha) ha'⟩
theorem mod_bounds (a b : Int) (hb : 0 < b) (hb' : b ≤ 4294967295) : 0 ≤ a % b ∧ a % b ≤ 4294967295 :=
  ⟨Int.emod_nonneg _ (by omega), Int.le_trans (Int.le_of_lt (Int.emod_lt_of_pos _ hb)) hb'⟩
theorem numI_le (o : Nat) (h5 : 5 ≤ o) (h20 : o ≤ 20) (a b : Int) (ha : 0 ≤ a) (ha' : a ≤ 4294967295) (hb : 0 ≤ b) (hb' : b ≤ 4294967295) : 0 ≤ (numI o a b).1 ∧ (numI o a b).1 ≤ 4294967295 := by
  have hp : ∀ n : Nat, (0 : Int) < 2 ^ n := fun n => Int.pow_pos (by decide)
  rcases (show o = 5 ∨ o = 6 ∨ o = 7 ∨ o = 8 ∨ o = 9 ∨ o = 10 ∨ o = 11 ∨ o = 12 ∨ o = 13 ∨ o = 14 ∨ o = 15 ∨ o = 16 ∨ o = 17 ∨ o = 18 ∨ o = 19 ∨ o = 20 by omega) with rfl | rfl | rfl | rfl | rfl | rfl | rfl | rfl | rfl | rfl | rfl | rfl | rfl | rfl | rfl | rfl
  · exact (show 0 ≤ (a + b) % 4294967296 ∧ (a + b) % 4294967296 ≤ 4294967295 by omega)
  · exact (show 0 ≤ (a - b) % 4294967296 ∧ (a - b) % 4294967296 ≤ 4294967295 by omega)
  · exact (show 0 ≤ (a * b) % 4294967296 ∧ (a * b) % 4294967296 ≤ 4294967295 by omega)
  · by_cases h : b = 0
    · rw [show numI 8 a b = (0, 31) by simp [numI, h]]; exact ⟨Int.le_refl 0, by omega⟩
    · rw [show numI 8 a b = (a / b, 0) by simp [numI, h]]; exact div_bounds a b ha ha' (by omega)
  · by_cases h : b = 0
    · rw [show numI 9 a b = (0, 31) by simp [numI, h]]; exact ⟨Int.le_refl 0, by omega⟩
    · rw [show numI 9 a b = (a % b, 0) by simp [numI, h]]; exact mod_bounds a b (by omega) hb'
  · by_cases h : b = 0
    · rw [show numI 10 a b = (0, 31) by simp [numI, h]]; exact ⟨Int.le_refl 0, by omega⟩
    · rw [show numI 10 a b = (wrap64 ((wrap64 (wrap32 a)).tdiv (wrap64 (wrap32 b))) % 4294967296, 0) by simp [numI, h]]
      show 0 ≤ wrap64 ((wrap64 (wrap32 a)).tdiv (wrap64 (wrap32 b))) % 4294967296 ∧ _ ≤ _
      omega
  · exact ⟨bits_lo_u32 .and a b, bits_hi_u32 .and a b⟩
  · exact ⟨bits_lo_u32 .or a b, bits_hi_u32 .or a b⟩
  · exact ⟨bits_lo_u32 .xor a b, bits_hi_u32 .xor a b⟩
  · exact (show 0 ≤ a * 2 ^ (b % 32).toNat % 4294967296 ∧ a * 2 ^ (b % 32).toNat % 4294967296 ≤ 4294967295 by omega)
  · exact div_bounds a (2 ^ (b % 32).toNat) ha ha' (hp _)
  · exact (show 0 ≤ wrap32 a / 2 ^ (b % 32).toNat % 4294967296 ∧ wrap32 a / 2 ^ (b % 32).toNat % 4294967296 ≤ 4294967295 by omega)
  · exact ⟨bits_lo_u32 .or _ _, bits_hi_u32 .or _ _⟩
  · show 0 ≤ (if wrap32 a < wrap32 b then (1 : Int) else 0) ∧ (if wrap32 a < wrap32 b then (1 : Int) else 0) ≤ 4294967295
    split <;> omega
  · show 0 ≤ (if a < b then (1 : Int) else 0) ∧ (if a < b then (1 : Int) else 0) ≤ 4294967295
    split <;> omega
  · show 0 ≤ (if a = b then (1 : Int) else 0) ∧ (if a = b then (1 : Int) else 0) ≤ 4294967295
    split <;> omega
theorem s32_nz (b : Int) (h0 : 0 ≤ b) (h1 : b ≤ 4294967295) (hb : b ≠ 0) : wrap64 (wrap32 b) ≠ 0 := by
  simp only [wrap64, wrap32]
  omega
set_option maxHeartbeats 8000000 in
theorem number_any (o : Nat) (h5 : 5 ≤ o) (h20 : o ≤ 20) (a b : Int) (ha : 0 ≤ a) (ha' : a ≤ 4294967295) (hb : 0 ≤ b) (hb' : b ≤ 4294967295) (w : World) :
    Calls Try.prog 42 #[.int .u8 o, .int .u32 a, .int .u32 b] w fun e w' => e = .returned (.tuple #[.int .u32 (numI o a b).1, .int .i64 (numI o a b).2]) ∧ w = w' := by
  have e31 := and31 b hb hb'
  have c0 : 0 ≤ b % 32 := by omega
  have c1 : b % 32 ≤ 31 := by omega
  have hrot := rot_any a (b % 32) ha ha' c0 c1
  by_cases hb0 : b = 0
  · have hz2 : (b == 0) = true := by rw [beq_iff_eq]; exact hb0
    have HB0 := Lib.hid hb0
    clear hb0
    rcases (show o = 5 ∨ o = 6 ∨ o = 7 ∨ o = 8 ∨ o = 9 ∨ o = 10 ∨ o = 11 ∨ o = 12 ∨ o = 13 ∨ o = 14 ∨ o = 15 ∨ o = 16 ∨ o = 17 ∨ o = 18 ∨ o = 19 ∨ o = 20 by omega) with rfl | rfl | rfl | rfl | rfl | rfl | rfl | rfl | rfl | rfl | rfl | rfl | rfl | rfl | rfl | rfl
    all_goals
      go_enter Try.func42, Try.ntmps42
      go_wp2_with (first | (go_at_call 58; refine (truth_any _ _).mono ?_; rintro e w1 ⟨rfl, rfl⟩) | (go_at_call 57; refine (hrot _).mono ?_; rintro e w1 ⟨rfl, rfl⟩))
    all_goals (go_ret2; refine ⟨?_, rfl⟩)
    all_goals first | rfl | (simp [numI, HB0.out]; done) | (simp [numI, *]; done)
  · have hz := s32_nz b hb hb' hb0
    have hz2 : (b == 0) = false := by rw [beq_eq_false_iff_ne]; exact hb0
    have hz3 : (wrap64 (wrap32 b) == 0) = false := by rw [beq_eq_false_iff_ne]; exact hz
    rcases (show o = 5 ∨ o = 6 ∨ o = 7 ∨ o = 8 ∨ o = 9 ∨ o = 10 ∨ o = 11 ∨ o = 12 ∨ o = 13 ∨ o = 14 ∨ o = 15 ∨ o = 16 ∨ o = 17 ∨ o = 18 ∨ o = 19 ∨ o = 20 by omega) with rfl | rfl | rfl | rfl | rfl | rfl | rfl | rfl | rfl | rfl | rfl | rfl | rfl | rfl | rfl | rfl
    all_goals
      go_enter Try.func42, Try.ntmps42
      go_wp2_with (first | (go_at_call 58; refine (truth_any _ _).mono ?_; rintro e w1 ⟨rfl, rfl⟩) | (go_at_call 57; refine (hrot _).mono ?_; rintro e w1 ⟨rfl, rfl⟩))
    all_goals (go_ret2; refine ⟨?_, rfl⟩)
    all_goals first | rfl | (simp [numI, hb0]; done) | (simp [numI, *]; done)
end Go.Proofs.Ytapcbfeifeobhaa
