/- The law CallValues: its walk. -/
import Derived.Test.YtbdcbkmacpameaaCallA
set_option linter.unusedVariables false
namespace Go.Proofs.Ytbdcbkmacpameaa
open Go.RowKit

theorem Arg.stat {W : World} {v : Value} (o : Arg Try.prog W 54 v) : ∃ l n g k s z : Int, v = .agg #[.int .u8 l, .int .u16 n, .int .u16 g, .int .u8 k, .int .u8 s, .int .u32 z] ∧
    (0 ≤ l ∧ l ≤ 255) ∧ (0 ≤ n ∧ n ≤ 65535) ∧ (0 ≤ g ∧ g ≤ 65535) ∧ (0 ≤ k ∧ k ≤ 255) ∧ (0 ≤ s ∧ s ≤ 255) ∧ (0 ≤ z ∧ z ≤ 4294967295) := by
  obtain ⟨cs, rfl, h⟩ := Arg.flat (.inl ⟨_, Try.underlying54⟩) 4 (ks := [⟨0, .u8, 0⟩, ⟨0, .u16, 0⟩, ⟨0, .u16, 0⟩, ⟨0, .u8, 0⟩, ⟨0, .u8, 0⟩, ⟨0, .u32, 0⟩]) (by kernel_rfl) o
  obtain ⟨_, _, rfl, ⟨l, rfl, hl⟩, h1⟩ := FitsAll.cons h
  obtain ⟨_, _, rfl, ⟨n, rfl, hn⟩, h2⟩ := FitsAll.cons h1
  obtain ⟨_, _, rfl, ⟨g, rfl, hg⟩, h3⟩ := FitsAll.cons h2
  obtain ⟨_, _, rfl, ⟨k, rfl, hk⟩, h4⟩ := FitsAll.cons h3
  obtain ⟨_, _, rfl, ⟨s, rfl, hs⟩, h5⟩ := FitsAll.cons h4
  obtain ⟨_, _, rfl, ⟨z, rfl, hz⟩, h6⟩ := FitsAll.cons h5
  obtain rfl := FitsAll.nil h6
  exact ⟨l, n, g, k, s, z, rfl, wf_u8 hl, wf_u16 hn, wf_u16 hg, wf_u8 hk, wf_u8 hs, wf_u32 hz⟩

set_option maxHeartbeats 2000000 in
theorem callValues_10 (W : World) (x c l n g k s z m r : Int) (hl : 0 ≤ l) (hl' : l ≤ 255) (hn : 0 ≤ n) (hn' : n ≤ 65535) (hg : 0 ≤ g) (hg' : g ≤ 65535) (hk : 0 ≤ k) (hk' : k ≤ 255) (hs : 0 ≤ s) (hs' : s ≤ 255) (hz : 0 ≤ z) (hz' : z ≤ 4294967295)
    (hx0 : -2147483648 ≤ x) (hx1 : x ≤ 2147483647) (hc0 : -9223372036854775808 ≤ c) (hc1 : c ≤ 9223372036854775807) (hm0 : 0 ≤ m) (hm1 : m ≤ 4294967295) (hr : c.tmod 1000 = r) (hr0 : -999 ≤ r) (hr1 : r ≤ 999) (h1 : 31 < m) (ho : ¬ modeOk m) (h0 : r = 0) :
    Calls Try.prog 6 #[.int .i32 x, .int .i64 c, .agg #[.int .u8 l, .int .u16 n, .int .u16 g, .int .u8 k, .int .u8 s, .int .u32 z], .int .u32 m] W fun e w' => e = .returned (.bool true) ∧ Below W.heap.size W w' := by
  subst h0
  go_enter Try.func6, Try.ntmps6
  go_wp2_with fail
  refine (callAwake_any _).mono ?_; rintro e w1 ⟨rfl, rfl⟩
  go_wp2_with fail
  refine (callStat_any l n g k s z ⟨hl, hl'⟩ ⟨hn, hn'⟩ ⟨hg, hg'⟩ ⟨hk, hk'⟩ ⟨hs, hs'⟩ ⟨hz, hz'⟩ _).mono ?_; rintro e w1 ⟨rfl, hb⟩
  have hB := bnext (bnew _ _) hb
  have B1 := bkeep hb (heap_alloc_last _ _)
  have c1 := rowcell B1
  have z1 := rowlt B1
  clear hb
  go_wp2_with fail
  refine (callValue_ok x (by omega) (by omega) _).mono ?_; rintro e w2 ⟨rfl, rfl⟩
  have f1 : (n % 256 + n / 256 * 256 == n) = true := by rw [beq_iff_eq]; omega
  have f2 : (g % 256 + g / 256 * 256 == g) = true := by rw [beq_iff_eq]; omega
  have f3 : (z % 256 + z / 256 % 256 * 256 + z / 65536 % 256 * 65536 + z / 16777216 * 16777216 == z) = true := by rw [beq_iff_eq]; omega
  go_wp2_with (go_at_call 31; refine (callMode_no m hm0 hm1 ho _).mono ?_; rintro e w2 ⟨rfl, rfl⟩)
  go_ret
  first
    | exact ⟨rfl, bnewAfter (bnewAfter hB _) _⟩
    | exact ⟨ret_bool (by simp; omega), bnewAfter (bnewAfter hB _) _⟩

set_option maxHeartbeats 2000000 in
theorem callValues_11 (W : World) (x c l n g k s z m r : Int) (hl : 0 ≤ l) (hl' : l ≤ 255) (hn : 0 ≤ n) (hn' : n ≤ 65535) (hg : 0 ≤ g) (hg' : g ≤ 65535) (hk : 0 ≤ k) (hk' : k ≤ 255) (hs : 0 ≤ s) (hs' : s ≤ 255) (hz : 0 ≤ z) (hz' : z ≤ 4294967295)
    (hx0 : -2147483648 ≤ x) (hx1 : x ≤ 2147483647) (hc0 : -9223372036854775808 ≤ c) (hc1 : c ≤ 9223372036854775807) (hm0 : 0 ≤ m) (hm1 : m ≤ 4294967295) (hr : c.tmod 1000 = r) (hr0 : -999 ≤ r) (hr1 : r ≤ 999) (h1 : 31 < m) (ho : ¬ modeOk m) (h0 : ¬ r = 0) :
    Calls Try.prog 6 #[.int .i32 x, .int .i64 c, .agg #[.int .u8 l, .int .u16 n, .int .u16 g, .int .u8 k, .int .u8 s, .int .u32 z], .int .u32 m] W fun e w' => e = .returned (.bool true) ∧ Below W.heap.size W w' := by
  go_enter Try.func6, Try.ntmps6
  go_wp2_with fail
  refine (callAwake_any _).mono ?_; rintro e w1 ⟨rfl, rfl⟩
  go_wp2_with fail
  refine (callStat_any l n g k s z ⟨hl, hl'⟩ ⟨hn, hn'⟩ ⟨hg, hg'⟩ ⟨hk, hk'⟩ ⟨hs, hs'⟩ ⟨hz, hz'⟩ _).mono ?_; rintro e w1 ⟨rfl, hb⟩
  have hB := bnext (bnew _ _) hb
  have B1 := bkeep hb (heap_alloc_last _ _)
  have c1 := rowcell B1
  have z1 := rowlt B1
  clear hb
  go_wp2_with fail
  refine (callValue_err x r (by omega) (by omega) h0 _).mono ?_; rintro e w2 ⟨rfl, rfl⟩
  have f0 : (-r % 4294967296 == 4294967296 - r % 4294967296) = true := by rw [beq_iff_eq]; omega
  have f1 : (n % 256 + n / 256 * 256 == n) = true := by rw [beq_iff_eq]; omega
  have f2 : (g % 256 + g / 256 * 256 == g) = true := by rw [beq_iff_eq]; omega
  have f3 : (z % 256 + z / 256 % 256 * 256 + z / 65536 % 256 * 65536 + z / 16777216 * 16777216 == z) = true := by rw [beq_iff_eq]; omega
  go_wp2_with (go_at_call 31; refine (callMode_no m hm0 hm1 ho _).mono ?_; rintro e w2 ⟨rfl, rfl⟩)
  go_ret
  first
    | exact ⟨rfl, bnewAfter (bnewAfter hB _) _⟩
    | exact ⟨ret_bool (by simp; omega), bnewAfter (bnewAfter hB _) _⟩

set_option maxHeartbeats 2000000 in
theorem callValues_20 (W : World) (x c l n g k s z m r : Int) (hl : 0 ≤ l) (hl' : l ≤ 255) (hn : 0 ≤ n) (hn' : n ≤ 65535) (hg : 0 ≤ g) (hg' : g ≤ 65535) (hk : 0 ≤ k) (hk' : k ≤ 255) (hs : 0 ≤ s) (hs' : s ≤ 255) (hz : 0 ≤ z) (hz' : z ≤ 4294967295)
    (hx0 : -2147483648 ≤ x) (hx1 : x ≤ 2147483647) (hc0 : -9223372036854775808 ≤ c) (hc1 : c ≤ 9223372036854775807) (hm0 : 0 ≤ m) (hm1 : m ≤ 4294967295) (hr : c.tmod 1000 = r) (hr0 : -999 ≤ r) (hr1 : r ≤ 999) (h1 : m ≤ 31) (h2 : m % 8 = 0) (ho : ¬ modeOk m) (h0 : r = 0) :
    Calls Try.prog 6 #[.int .i32 x, .int .i64 c, .agg #[.int .u8 l, .int .u16 n, .int .u16 g, .int .u8 k, .int .u8 s, .int .u32 z], .int .u32 m] W fun e w' => e = .returned (.bool true) ∧ Below W.heap.size W w' := by
  subst h0
  go_enter Try.func6, Try.ntmps6
  go_wp2_with fail
  refine (callAwake_any _).mono ?_; rintro e w1 ⟨rfl, rfl⟩
  go_wp2_with fail
  refine (callStat_any l n g k s z ⟨hl, hl'⟩ ⟨hn, hn'⟩ ⟨hg, hg'⟩ ⟨hk, hk'⟩ ⟨hs, hs'⟩ ⟨hz, hz'⟩ _).mono ?_; rintro e w1 ⟨rfl, hb⟩
  have hB := bnext (bnew _ _) hb
  have B1 := bkeep hb (heap_alloc_last _ _)
  have c1 := rowcell B1
  have z1 := rowlt B1
  clear hb
  go_wp2_with fail
  refine (callValue_ok x (by omega) (by omega) _).mono ?_; rintro e w2 ⟨rfl, rfl⟩
  have f1 : (n % 256 + n / 256 * 256 == n) = true := by rw [beq_iff_eq]; omega
  have f2 : (g % 256 + g / 256 * 256 == g) = true := by rw [beq_iff_eq]; omega
  have f3 : (z % 256 + z / 256 % 256 * 256 + z / 65536 % 256 * 65536 + z / 16777216 * 16777216 == z) = true := by rw [beq_iff_eq]; omega
  go_wp2_with (go_at_call 31; refine (callMode_no m hm0 hm1 ho _).mono ?_; rintro e w2 ⟨rfl, rfl⟩)
  go_ret
  first
    | exact ⟨rfl, bnewAfter (bnewAfter hB _) _⟩
    | exact ⟨ret_bool (by simp; omega), bnewAfter (bnewAfter hB _) _⟩

set_option maxHeartbeats 2000000 in
theorem callValues_21 (W : World) (x c l n g k s z m r : Int) (hl : 0 ≤ l) (hl' : l ≤ 255) (hn : 0 ≤ n) (hn' : n ≤ 65535) (hg : 0 ≤ g) (hg' : g ≤ 65535) (hk : 0 ≤ k) (hk' : k ≤ 255) (hs : 0 ≤ s) (hs' : s ≤ 255) (hz : 0 ≤ z) (hz' : z ≤ 4294967295)
    (hx0 : -2147483648 ≤ x) (hx1 : x ≤ 2147483647) (hc0 : -9223372036854775808 ≤ c) (hc1 : c ≤ 9223372036854775807) (hm0 : 0 ≤ m) (hm1 : m ≤ 4294967295) (hr : c.tmod 1000 = r) (hr0 : -999 ≤ r) (hr1 : r ≤ 999) (h1 : m ≤ 31) (h2 : m % 8 = 0) (ho : ¬ modeOk m) (h0 : ¬ r = 0) :
    Calls Try.prog 6 #[.int .i32 x, .int .i64 c, .agg #[.int .u8 l, .int .u16 n, .int .u16 g, .int .u8 k, .int .u8 s, .int .u32 z], .int .u32 m] W fun e w' => e = .returned (.bool true) ∧ Below W.heap.size W w' := by
  go_enter Try.func6, Try.ntmps6
  go_wp2_with fail
  refine (callAwake_any _).mono ?_; rintro e w1 ⟨rfl, rfl⟩
  go_wp2_with fail
  refine (callStat_any l n g k s z ⟨hl, hl'⟩ ⟨hn, hn'⟩ ⟨hg, hg'⟩ ⟨hk, hk'⟩ ⟨hs, hs'⟩ ⟨hz, hz'⟩ _).mono ?_; rintro e w1 ⟨rfl, hb⟩
  have hB := bnext (bnew _ _) hb
  have B1 := bkeep hb (heap_alloc_last _ _)
  have c1 := rowcell B1
  have z1 := rowlt B1
  clear hb
  go_wp2_with fail
  refine (callValue_err x r (by omega) (by omega) h0 _).mono ?_; rintro e w2 ⟨rfl, rfl⟩
  have f0 : (-r % 4294967296 == 4294967296 - r % 4294967296) = true := by rw [beq_iff_eq]; omega
  have f1 : (n % 256 + n / 256 * 256 == n) = true := by rw [beq_iff_eq]; omega
  have f2 : (g % 256 + g / 256 * 256 == g) = true := by rw [beq_iff_eq]; omega
  have f3 : (z % 256 + z / 256 % 256 * 256 + z / 65536 % 256 * 65536 + z / 16777216 * 16777216 == z) = true := by rw [beq_iff_eq]; omega
  go_wp2_with (go_at_call 31; refine (callMode_no m hm0 hm1 ho _).mono ?_; rintro e w2 ⟨rfl, rfl⟩)
  go_ret
  first
    | exact ⟨rfl, bnewAfter (bnewAfter hB _) _⟩
    | exact ⟨ret_bool (by simp; omega), bnewAfter (bnewAfter hB _) _⟩

set_option maxHeartbeats 2000000 in
theorem callValues_30 (W : World) (x c l n g k s z m r : Int) (hl : 0 ≤ l) (hl' : l ≤ 255) (hn : 0 ≤ n) (hn' : n ≤ 65535) (hg : 0 ≤ g) (hg' : g ≤ 65535) (hk : 0 ≤ k) (hk' : k ≤ 255) (hs : 0 ≤ s) (hs' : s ≤ 255) (hz : 0 ≤ z) (hz' : z ≤ 4294967295)
    (hx0 : -2147483648 ≤ x) (hx1 : x ≤ 2147483647) (hc0 : -9223372036854775808 ≤ c) (hc1 : c ≤ 9223372036854775807) (hm0 : 0 ≤ m) (hm1 : m ≤ 4294967295) (hr : c.tmod 1000 = r) (hr0 : -999 ≤ r) (hr1 : r ≤ 999) (h1 : 8 ≤ m) (h2 : m ≤ 31) (h3 : m % 8 = 1) (ho : ¬ modeOk m) (h0 : r = 0) :
    Calls Try.prog 6 #[.int .i32 x, .int .i64 c, .agg #[.int .u8 l, .int .u16 n, .int .u16 g, .int .u8 k, .int .u8 s, .int .u32 z], .int .u32 m] W fun e w' => e = .returned (.bool true) ∧ Below W.heap.size W w' := by
  subst h0
  go_enter Try.func6, Try.ntmps6
  go_wp2_with fail
  refine (callAwake_any _).mono ?_; rintro e w1 ⟨rfl, rfl⟩
  go_wp2_with fail
  refine (callStat_any l n g k s z ⟨hl, hl'⟩ ⟨hn, hn'⟩ ⟨hg, hg'⟩ ⟨hk, hk'⟩ ⟨hs, hs'⟩ ⟨hz, hz'⟩ _).mono ?_; rintro e w1 ⟨rfl, hb⟩
  have hB := bnext (bnew _ _) hb
  have B1 := bkeep hb (heap_alloc_last _ _)
  have c1 := rowcell B1
  have z1 := rowlt B1
  clear hb
  go_wp2_with fail
  refine (callValue_ok x (by omega) (by omega) _).mono ?_; rintro e w2 ⟨rfl, rfl⟩
  have f1 : (n % 256 + n / 256 * 256 == n) = true := by rw [beq_iff_eq]; omega
  have f2 : (g % 256 + g / 256 * 256 == g) = true := by rw [beq_iff_eq]; omega
  have f3 : (z % 256 + z / 256 % 256 * 256 + z / 65536 % 256 * 65536 + z / 16777216 * 16777216 == z) = true := by rw [beq_iff_eq]; omega
  go_wp2_with (go_at_call 31; refine (callMode_no m hm0 hm1 ho _).mono ?_; rintro e w2 ⟨rfl, rfl⟩)
  go_ret
  first
    | exact ⟨rfl, bnewAfter (bnewAfter hB _) _⟩
    | exact ⟨ret_bool (by simp; omega), bnewAfter (bnewAfter hB _) _⟩

set_option maxHeartbeats 2000000 in
theorem callValues_31 (W : World) (x c l n g k s z m r : Int) (hl : 0 ≤ l) (hl' : l ≤ 255) (hn : 0 ≤ n) (hn' : n ≤ 65535) (hg : 0 ≤ g) (hg' : g ≤ 65535) (hk : 0 ≤ k) (hk' : k ≤ 255) (hs : 0 ≤ s) (hs' : s ≤ 255) (hz : 0 ≤ z) (hz' : z ≤ 4294967295)
    (hx0 : -2147483648 ≤ x) (hx1 : x ≤ 2147483647) (hc0 : -9223372036854775808 ≤ c) (hc1 : c ≤ 9223372036854775807) (hm0 : 0 ≤ m) (hm1 : m ≤ 4294967295) (hr : c.tmod 1000 = r) (hr0 : -999 ≤ r) (hr1 : r ≤ 999) (h1 : 8 ≤ m) (h2 : m ≤ 31) (h3 : m % 8 = 1) (ho : ¬ modeOk m) (h0 : ¬ r = 0) :
    Calls Try.prog 6 #[.int .i32 x, .int .i64 c, .agg #[.int .u8 l, .int .u16 n, .int .u16 g, .int .u8 k, .int .u8 s, .int .u32 z], .int .u32 m] W fun e w' => e = .returned (.bool true) ∧ Below W.heap.size W w' := by
  go_enter Try.func6, Try.ntmps6
  go_wp2_with fail
  refine (callAwake_any _).mono ?_; rintro e w1 ⟨rfl, rfl⟩
  go_wp2_with fail
  refine (callStat_any l n g k s z ⟨hl, hl'⟩ ⟨hn, hn'⟩ ⟨hg, hg'⟩ ⟨hk, hk'⟩ ⟨hs, hs'⟩ ⟨hz, hz'⟩ _).mono ?_; rintro e w1 ⟨rfl, hb⟩
  have hB := bnext (bnew _ _) hb
  have B1 := bkeep hb (heap_alloc_last _ _)
  have c1 := rowcell B1
  have z1 := rowlt B1
  clear hb
  go_wp2_with fail
  refine (callValue_err x r (by omega) (by omega) h0 _).mono ?_; rintro e w2 ⟨rfl, rfl⟩
  have f0 : (-r % 4294967296 == 4294967296 - r % 4294967296) = true := by rw [beq_iff_eq]; omega
  have f1 : (n % 256 + n / 256 * 256 == n) = true := by rw [beq_iff_eq]; omega
  have f2 : (g % 256 + g / 256 * 256 == g) = true := by rw [beq_iff_eq]; omega
  have f3 : (z % 256 + z / 256 % 256 * 256 + z / 65536 % 256 * 65536 + z / 16777216 * 16777216 == z) = true := by rw [beq_iff_eq]; omega
  go_wp2_with (go_at_call 31; refine (callMode_no m hm0 hm1 ho _).mono ?_; rintro e w2 ⟨rfl, rfl⟩)
  go_ret
  first
    | exact ⟨rfl, bnewAfter (bnewAfter hB _) _⟩
    | exact ⟨ret_bool (by simp; omega), bnewAfter (bnewAfter hB _) _⟩

set_option maxHeartbeats 2000000 in
theorem callValues_40 (W : World) (x c l n g k s z m r : Int) (hl : 0 ≤ l) (hl' : l ≤ 255) (hn : 0 ≤ n) (hn' : n ≤ 65535) (hg : 0 ≤ g) (hg' : g ≤ 65535) (hk : 0 ≤ k) (hk' : k ≤ 255) (hs : 0 ≤ s) (hs' : s ≤ 255) (hz : 0 ≤ z) (hz' : z ≤ 4294967295)
    (hx0 : -2147483648 ≤ x) (hx1 : x ≤ 2147483647) (hc0 : -9223372036854775808 ≤ c) (hc1 : c ≤ 9223372036854775807) (hm0 : 0 ≤ m) (hm1 : m ≤ 4294967295) (hr : c.tmod 1000 = r) (hr0 : -999 ≤ r) (hr1 : r ≤ 999) (h1 : m < 8) (h2 : 0 < m % 8) (ho : modeOk m) (h0 : r = 0) :
    Calls Try.prog 6 #[.int .i32 x, .int .i64 c, .agg #[.int .u8 l, .int .u16 n, .int .u16 g, .int .u8 k, .int .u8 s, .int .u32 z], .int .u32 m] W fun e w' => e = .returned (.bool true) ∧ Below W.heap.size W w' := by
  subst h0
  go_enter Try.func6, Try.ntmps6
  go_wp2_with fail
  refine (callAwake_any _).mono ?_; rintro e w1 ⟨rfl, rfl⟩
  go_wp2_with fail
  refine (callStat_any l n g k s z ⟨hl, hl'⟩ ⟨hn, hn'⟩ ⟨hg, hg'⟩ ⟨hk, hk'⟩ ⟨hs, hs'⟩ ⟨hz, hz'⟩ _).mono ?_; rintro e w1 ⟨rfl, hb⟩
  have hB := bnext (bnew _ _) hb
  have B1 := bkeep hb (heap_alloc_last _ _)
  have c1 := rowcell B1
  have z1 := rowlt B1
  clear hb
  go_wp2_with fail
  refine (callValue_ok x (by omega) (by omega) _).mono ?_; rintro e w2 ⟨rfl, rfl⟩
  have f1 : (n % 256 + n / 256 * 256 == n) = true := by rw [beq_iff_eq]; omega
  have f2 : (g % 256 + g / 256 * 256 == g) = true := by rw [beq_iff_eq]; omega
  have f3 : (z % 256 + z / 256 % 256 * 256 + z / 65536 % 256 * 65536 + z / 16777216 * 16777216 == z) = true := by rw [beq_iff_eq]; omega
  go_wp2_with (go_at_call 31; refine (callMode_yes m hm0 ho _).mono ?_; rintro e w2 ⟨rfl, rfl⟩)
  go_ret
  first
    | exact ⟨rfl, bnewAfter (bnewAfter hB _) _⟩
    | exact ⟨ret_bool (by simp; omega), bnewAfter (bnewAfter hB _) _⟩

set_option maxHeartbeats 2000000 in
theorem callValues_41 (W : World) (x c l n g k s z m r : Int) (hl : 0 ≤ l) (hl' : l ≤ 255) (hn : 0 ≤ n) (hn' : n ≤ 65535) (hg : 0 ≤ g) (hg' : g ≤ 65535) (hk : 0 ≤ k) (hk' : k ≤ 255) (hs : 0 ≤ s) (hs' : s ≤ 255) (hz : 0 ≤ z) (hz' : z ≤ 4294967295)
    (hx0 : -2147483648 ≤ x) (hx1 : x ≤ 2147483647) (hc0 : -9223372036854775808 ≤ c) (hc1 : c ≤ 9223372036854775807) (hm0 : 0 ≤ m) (hm1 : m ≤ 4294967295) (hr : c.tmod 1000 = r) (hr0 : -999 ≤ r) (hr1 : r ≤ 999) (h1 : m < 8) (h2 : 0 < m % 8) (ho : modeOk m) (h0 : ¬ r = 0) :
    Calls Try.prog 6 #[.int .i32 x, .int .i64 c, .agg #[.int .u8 l, .int .u16 n, .int .u16 g, .int .u8 k, .int .u8 s, .int .u32 z], .int .u32 m] W fun e w' => e = .returned (.bool true) ∧ Below W.heap.size W w' := by
  go_enter Try.func6, Try.ntmps6
  go_wp2_with fail
  refine (callAwake_any _).mono ?_; rintro e w1 ⟨rfl, rfl⟩
  go_wp2_with fail
  refine (callStat_any l n g k s z ⟨hl, hl'⟩ ⟨hn, hn'⟩ ⟨hg, hg'⟩ ⟨hk, hk'⟩ ⟨hs, hs'⟩ ⟨hz, hz'⟩ _).mono ?_; rintro e w1 ⟨rfl, hb⟩
  have hB := bnext (bnew _ _) hb
  have B1 := bkeep hb (heap_alloc_last _ _)
  have c1 := rowcell B1
  have z1 := rowlt B1
  clear hb
  go_wp2_with fail
  refine (callValue_err x r (by omega) (by omega) h0 _).mono ?_; rintro e w2 ⟨rfl, rfl⟩
  have f0 : (-r % 4294967296 == 4294967296 - r % 4294967296) = true := by rw [beq_iff_eq]; omega
  have f1 : (n % 256 + n / 256 * 256 == n) = true := by rw [beq_iff_eq]; omega
  have f2 : (g % 256 + g / 256 * 256 == g) = true := by rw [beq_iff_eq]; omega
  have f3 : (z % 256 + z / 256 % 256 * 256 + z / 65536 % 256 * 65536 + z / 16777216 * 16777216 == z) = true := by rw [beq_iff_eq]; omega
  go_wp2_with (go_at_call 31; refine (callMode_yes m hm0 ho _).mono ?_; rintro e w2 ⟨rfl, rfl⟩)
  go_ret
  first
    | exact ⟨rfl, bnewAfter (bnewAfter hB _) _⟩
    | exact ⟨ret_bool (by simp; omega), bnewAfter (bnewAfter hB _) _⟩

set_option maxHeartbeats 2000000 in
theorem callValues_50 (W : World) (x c l n g k s z m r : Int) (hl : 0 ≤ l) (hl' : l ≤ 255) (hn : 0 ≤ n) (hn' : n ≤ 65535) (hg : 0 ≤ g) (hg' : g ≤ 65535) (hk : 0 ≤ k) (hk' : k ≤ 255) (hs : 0 ≤ s) (hs' : s ≤ 255) (hz : 0 ≤ z) (hz' : z ≤ 4294967295)
    (hx0 : -2147483648 ≤ x) (hx1 : x ≤ 2147483647) (hc0 : -9223372036854775808 ≤ c) (hc1 : c ≤ 9223372036854775807) (hm0 : 0 ≤ m) (hm1 : m ≤ 4294967295) (hr : c.tmod 1000 = r) (hr0 : -999 ≤ r) (hr1 : r ≤ 999) (h1 : 8 ≤ m) (h2 : m ≤ 31) (h3 : 1 < m % 8) (ho : modeOk m) (h0 : r = 0) :
    Calls Try.prog 6 #[.int .i32 x, .int .i64 c, .agg #[.int .u8 l, .int .u16 n, .int .u16 g, .int .u8 k, .int .u8 s, .int .u32 z], .int .u32 m] W fun e w' => e = .returned (.bool true) ∧ Below W.heap.size W w' := by
  subst h0
  go_enter Try.func6, Try.ntmps6
  go_wp2_with fail
  refine (callAwake_any _).mono ?_; rintro e w1 ⟨rfl, rfl⟩
  go_wp2_with fail
  refine (callStat_any l n g k s z ⟨hl, hl'⟩ ⟨hn, hn'⟩ ⟨hg, hg'⟩ ⟨hk, hk'⟩ ⟨hs, hs'⟩ ⟨hz, hz'⟩ _).mono ?_; rintro e w1 ⟨rfl, hb⟩
  have hB := bnext (bnew _ _) hb
  have B1 := bkeep hb (heap_alloc_last _ _)
  have c1 := rowcell B1
  have z1 := rowlt B1
  clear hb
  go_wp2_with fail
  refine (callValue_ok x (by omega) (by omega) _).mono ?_; rintro e w2 ⟨rfl, rfl⟩
  have f1 : (n % 256 + n / 256 * 256 == n) = true := by rw [beq_iff_eq]; omega
  have f2 : (g % 256 + g / 256 * 256 == g) = true := by rw [beq_iff_eq]; omega
  have f3 : (z % 256 + z / 256 % 256 * 256 + z / 65536 % 256 * 65536 + z / 16777216 * 16777216 == z) = true := by rw [beq_iff_eq]; omega
  go_wp2_with (go_at_call 31; refine (callMode_yes m hm0 ho _).mono ?_; rintro e w2 ⟨rfl, rfl⟩)
  go_ret
  first
    | exact ⟨rfl, bnewAfter (bnewAfter hB _) _⟩
    | exact ⟨ret_bool (by simp; omega), bnewAfter (bnewAfter hB _) _⟩

set_option maxHeartbeats 2000000 in
theorem callValues_51 (W : World) (x c l n g k s z m r : Int) (hl : 0 ≤ l) (hl' : l ≤ 255) (hn : 0 ≤ n) (hn' : n ≤ 65535) (hg : 0 ≤ g) (hg' : g ≤ 65535) (hk : 0 ≤ k) (hk' : k ≤ 255) (hs : 0 ≤ s) (hs' : s ≤ 255) (hz : 0 ≤ z) (hz' : z ≤ 4294967295)
    (hx0 : -2147483648 ≤ x) (hx1 : x ≤ 2147483647) (hc0 : -9223372036854775808 ≤ c) (hc1 : c ≤ 9223372036854775807) (hm0 : 0 ≤ m) (hm1 : m ≤ 4294967295) (hr : c.tmod 1000 = r) (hr0 : -999 ≤ r) (hr1 : r ≤ 999) (h1 : 8 ≤ m) (h2 : m ≤ 31) (h3 : 1 < m % 8) (ho : modeOk m) (h0 : ¬ r = 0) :
    Calls Try.prog 6 #[.int .i32 x, .int .i64 c, .agg #[.int .u8 l, .int .u16 n, .int .u16 g, .int .u8 k, .int .u8 s, .int .u32 z], .int .u32 m] W fun e w' => e = .returned (.bool true) ∧ Below W.heap.size W w' := by
  go_enter Try.func6, Try.ntmps6
  go_wp2_with fail
  refine (callAwake_any _).mono ?_; rintro e w1 ⟨rfl, rfl⟩
  go_wp2_with fail
  refine (callStat_any l n g k s z ⟨hl, hl'⟩ ⟨hn, hn'⟩ ⟨hg, hg'⟩ ⟨hk, hk'⟩ ⟨hs, hs'⟩ ⟨hz, hz'⟩ _).mono ?_; rintro e w1 ⟨rfl, hb⟩
  have hB := bnext (bnew _ _) hb
  have B1 := bkeep hb (heap_alloc_last _ _)
  have c1 := rowcell B1
  have z1 := rowlt B1
  clear hb
  go_wp2_with fail
  refine (callValue_err x r (by omega) (by omega) h0 _).mono ?_; rintro e w2 ⟨rfl, rfl⟩
  have f0 : (-r % 4294967296 == 4294967296 - r % 4294967296) = true := by rw [beq_iff_eq]; omega
  have f1 : (n % 256 + n / 256 * 256 == n) = true := by rw [beq_iff_eq]; omega
  have f2 : (g % 256 + g / 256 * 256 == g) = true := by rw [beq_iff_eq]; omega
  have f3 : (z % 256 + z / 256 % 256 * 256 + z / 65536 % 256 * 65536 + z / 16777216 * 16777216 == z) = true := by rw [beq_iff_eq]; omega
  go_wp2_with (go_at_call 31; refine (callMode_yes m hm0 ho _).mono ?_; rintro e w2 ⟨rfl, rfl⟩)
  go_ret
  first
    | exact ⟨rfl, bnewAfter (bnewAfter hB _) _⟩
    | exact ⟨ret_bool (by simp; omega), bnewAfter (bnewAfter hB _) _⟩

theorem callValues_walk (W : World) (v0 v1 v2 v3 : Value) (o0 : Arg Try.prog W 21 v0) (o1 : Arg Try.prog W 3 v1) (o2 : Arg Try.prog W 54 v2) (o3 : Arg Try.prog W 30 v3) :
    Calls Try.prog 6 #[v0, v1, v2, v3] W fun e w' => e = .returned (.bool true) ∧ Below W.heap.size W w' := by
  obtain ⟨x, rfl, hx⟩ := Arg.int Try.underlying21 o0
  obtain ⟨c, rfl, hc⟩ := Arg.int Try.underlying3 o1
  obtain ⟨l, n, g, k, s, z, rfl, ⟨hl, hl'⟩, ⟨hn, hn'⟩, ⟨hg, hg'⟩, ⟨hk, hk'⟩, ⟨hs, hs'⟩, ⟨hz, hz'⟩⟩ := Arg.stat o2
  obtain ⟨m, rfl, hm⟩ := Arg.int Try.underlying30 o3
  obtain ⟨hx0, hx1⟩ := wf_i32 hx
  obtain ⟨hc0, hc1⟩ := wf_i64 hc
  obtain ⟨hm0, hm1⟩ := wf_u32 hm
  clear o0 o1 o2 o3 hx hc hm
  obtain ⟨r, hr⟩ : ∃ r : Int, c.tmod 1000 = r := ⟨_, rfl⟩
  have hr2 : -999 ≤ r ∧ r ≤ 999 := by
    have h1 := Int.tmod_lt_of_pos c (b := 1000) (by omega)
    have h2 := Int.lt_tmod_of_pos c (b := 1000) (by omega)
    omega
  obtain ⟨hr0, hr1⟩ := hr2
  have hcase : (31 < m ∧ ¬ modeOk m) ∨ (m ≤ 31 ∧ m % 8 = 0 ∧ ¬ modeOk m) ∨ (8 ≤ m ∧ m ≤ 31 ∧ m % 8 = 1 ∧ ¬ modeOk m) ∨ (m < 8 ∧ 0 < m % 8 ∧ modeOk m) ∨ (8 ≤ m ∧ m ≤ 31 ∧ 1 < m % 8 ∧ modeOk m) := by
    unfold modeOk; omega
  rcases hcase with ⟨h1, ho⟩ | ⟨h1, h2, ho⟩ | ⟨h1, h2, h3, ho⟩ | ⟨h1, h2, ho⟩ | ⟨h1, h2, h3, ho⟩
  · by_cases h0 : r = 0
    · exact callValues_10 W x c l n g k s z m r hl hl' hn hn' hg hg' hk hk' hs hs' hz hz' hx0 hx1 hc0 hc1 hm0 hm1 hr hr0 hr1 h1 ho h0
    · exact callValues_11 W x c l n g k s z m r hl hl' hn hn' hg hg' hk hk' hs hs' hz hz' hx0 hx1 hc0 hc1 hm0 hm1 hr hr0 hr1 h1 ho h0
  · by_cases h0 : r = 0
    · exact callValues_20 W x c l n g k s z m r hl hl' hn hn' hg hg' hk hk' hs hs' hz hz' hx0 hx1 hc0 hc1 hm0 hm1 hr hr0 hr1 h1 h2 ho h0
    · exact callValues_21 W x c l n g k s z m r hl hl' hn hn' hg hg' hk hk' hs hs' hz hz' hx0 hx1 hc0 hc1 hm0 hm1 hr hr0 hr1 h1 h2 ho h0
  · by_cases h0 : r = 0
    · exact callValues_30 W x c l n g k s z m r hl hl' hn hn' hg hg' hk hk' hs hs' hz hz' hx0 hx1 hc0 hc1 hm0 hm1 hr hr0 hr1 h1 h2 h3 ho h0
    · exact callValues_31 W x c l n g k s z m r hl hl' hn hn' hg hg' hk hk' hs hs' hz hz' hx0 hx1 hc0 hc1 hm0 hm1 hr hr0 hr1 h1 h2 h3 ho h0
  · by_cases h0 : r = 0
    · exact callValues_40 W x c l n g k s z m r hl hl' hn hn' hg hg' hk hk' hs hs' hz hz' hx0 hx1 hc0 hc1 hm0 hm1 hr hr0 hr1 h1 h2 ho h0
    · exact callValues_41 W x c l n g k s z m r hl hl' hn hn' hg hg' hk hk' hs hs' hz hz' hx0 hx1 hc0 hc1 hm0 hm1 hr hr0 hr1 h1 h2 ho h0
  · by_cases h0 : r = 0
    · exact callValues_50 W x c l n g k s z m r hl hl' hn hn' hg hg' hk hk' hs hs' hz hz' hx0 hx1 hc0 hc1 hm0 hm1 hr hr0 hr1 h1 h2 h3 ho h0
    · exact callValues_51 W x c l n g k s z m r hl hl' hn hn' hg hg' hk hk' hs hs' hz hz' hx0 hx1 hc0 hc1 hm0 hm1 hr hr0 hr1 h1 h2 h3 ho h0
end Go.Proofs.Ytbdcbkmacpameaa
