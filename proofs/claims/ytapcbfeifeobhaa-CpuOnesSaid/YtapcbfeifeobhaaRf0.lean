/- The document's Cpu: wrap, signed. The document's Cpu: its memory: Load, Store. The document's Cpu in a world. The document's loops over bits: and, or, xor; turns; leading noughts; ones. What every instruction's theorem begins with. -/
import Derived.Test.YtapcbfeifeobhaaBase
import Derived.Laws.BitsLemmas
import Derived.Test.YtapcbfeifeobhaaCpU3
import Derived.Test.YtapcbfeifeobhaaCpU4
import Derived.Test.YtapcbfeifeobhaaCpuD
import Derived.Lib.BitFns
set_option linter.unusedVariables false
set_option linter.unusedSimpArgs false
namespace Go.Proofs.Ytapcbfeifeobhaa
open Go.RowKit
set_option maxHeartbeats 4000000 in
theorem refWrap_any (n : Int) (h0 : -4611686018427387904 ≤ n) (h1 : n ≤ 4611686018427387904) (w : World) : Calls Try.prog 46 #[.int .i64 n] w fun e w' => e = .returned (.int .u32 (n % 4294967296)) ∧ w = w' := by
  obtain ⟨t, ht⟩ : ∃ t, t = n.tmod 4294967296 := ⟨_, rfl⟩
  have ht' : n.tmod 4294967296 = t := ht.symm
  by_cases hn : 0 ≤ n
  · have e : t = n % 4294967296 := by rw [ht, Int.tmod_eq_emod_of_nonneg hn]
    have e2 : n % 4294967296 = t := e.symm
    have b0 : 0 ≤ t := by omega
    have b1 : t < 4294967296 := by omega
    have b2 : ¬ t < 0 := by omega
    have b3 : t % 4294967296 = t := by omega
    rw [← e]
    clear e ht
    go_enter Try.func46, Try.ntmps46
    go_wp2_with fail
    go_ret
    exact ⟨rfl, rfl⟩
  · have e : t = -((-n) % 4294967296) := by
      rw [ht]
      have : n = -(-n) := by omega
      conv => lhs; rw [this]
      rw [Int.neg_tmod, Int.tmod_eq_emod_of_nonneg (by omega)]
    have b0 : -4294967296 < t := by omega
    have b1 : t ≤ 0 := by omega
    have e3 : n % 4294967296 = if t < 0 then t + 4294967296 else 0 := by split <;> omega
    by_cases c : t < 0
    · rw [if_pos c] at e3
      rw [e3]
      have b3 : (t + 4294967296) % 4294967296 = t + 4294967296 := by omega
      clear e e3 ht
      go_enter Try.func46, Try.ntmps46
      go_wp2_with fail
      go_ret
      exact ⟨rfl, rfl⟩
    · rw [if_neg c] at e3
      rw [e3]
      obtain rfl : t = 0 := by omega
      clear e e3 ht
      go_enter Try.func46, Try.ntmps46
      go_wp2_with fail
      go_ret
      exact ⟨rfl, rfl⟩
/-- A number of so many bits (8, 16, 32), signed. -/
def sgI (b : Int) (n : Int) : Int := if b ≤ 2 * (n % b) then n % b - b else n % b
set_option maxHeartbeats 4000000 in
theorem refSigned8 (n : Int) (h0 : 0 ≤ n) (h1 : n ≤ 4294967295) (w : World) : Calls Try.prog 47 #[.int .u32 n, .int .i64 8] w fun e w' => e = .returned (.int .i64 (sgI 256 n)) ∧ w = w' := by
  have e1 : n.tmod 256 = n % 256 := Int.tmod_eq_emod_of_nonneg h0
  obtain ⟨t, ht⟩ : ∃ t, t = n % 256 := ⟨_, rfl⟩
  have b0 : 0 ≤ t := by omega
  have b1 : t < 256 := by omega
  unfold sgI
  rw [← ht] at e1 ⊢
  have e2 : n % 256 = t := ht.symm
  clear ht
  by_cases c : 128 ≤ t
  · rw [if_pos (by omega)]
    go_enter Try.func47, Try.ntmps47
    go_wp2_with fail
    go_ret
    exact ⟨rfl, rfl⟩
  · have c' : t < 128 := by omega
    rw [if_neg (by omega)]
    go_enter Try.func47, Try.ntmps47
    go_wp2_with fail
    go_ret
    exact ⟨rfl, rfl⟩
set_option maxHeartbeats 4000000 in
theorem refSigned16 (n : Int) (h0 : 0 ≤ n) (h1 : n ≤ 4294967295) (w : World) : Calls Try.prog 47 #[.int .u32 n, .int .i64 16] w fun e w' => e = .returned (.int .i64 (sgI 65536 n)) ∧ w = w' := by
  have e1 : n.tmod 65536 = n % 65536 := Int.tmod_eq_emod_of_nonneg h0
  obtain ⟨t, ht⟩ : ∃ t, t = n % 65536 := ⟨_, rfl⟩
  have b0 : 0 ≤ t := by omega
  have b1 : t < 65536 := by omega
  unfold sgI
  rw [← ht] at e1 ⊢
  have e2 : n % 65536 = t := ht.symm
  clear ht
  by_cases c : 32768 ≤ t
  · rw [if_pos (by omega)]
    go_enter Try.func47, Try.ntmps47
    go_wp2_with fail
    go_ret
    exact ⟨rfl, rfl⟩
  · have c' : t < 32768 := by omega
    rw [if_neg (by omega)]
    go_enter Try.func47, Try.ntmps47
    go_wp2_with fail
    go_ret
    exact ⟨rfl, rfl⟩
set_option maxHeartbeats 4000000 in
theorem refSigned32 (n : Int) (h0 : 0 ≤ n) (h1 : n ≤ 4294967295) (w : World) : Calls Try.prog 47 #[.int .u32 n, .int .i64 32] w fun e w' => e = .returned (.int .i64 (sgI 4294967296 n)) ∧ w = w' := by
  have e1 : n.tmod 4294967296 = n := by rw [Int.tmod_eq_emod_of_nonneg h0]; omega
  have e2 : n % 4294967296 = n := by omega
  unfold sgI
  rw [e2]
  by_cases c : 2147483648 ≤ n
  · rw [if_pos (by omega)]
    go_enter Try.func47, Try.ntmps47
    go_wp2_with fail
    go_ret
    exact ⟨rfl, rfl⟩
  · have c' : n < 2147483648 := by omega
    rw [if_neg (by omega)]
    go_enter Try.func47, Try.ntmps47
    go_wp2_with fail
    go_ret
    exact ⟨rfl, rfl⟩
end Go.Proofs.Ytapcbfeifeobhaa

set_option linter.unusedVariables false
set_option linter.unusedSimpArgs false
namespace Go.Proofs.Ytapcbfeifeobhaa
open Go.RowKit
/-- A memory's bytes in a world. -/
structure BW (w : World) (gb N L : Nat) (A : Option Addr) (mem : Nat → Nat) : Prop where
  nn : L ≤ N
  l4 : L ≤ 100000
  row : 0 < L → A = some ⟨gb, 0, none⟩ ∧ ∃ f : Nat → Value, w.rowIs gb 5 N f ∧ ∀ i, i < L → f i = .int .u8 (mem i)
  m0 : ∀ i, i < L → mem i < 256
section
variable {w w' : World} {gb N L : Nat} {A : Option Addr} {mem mem' : Nat → Nat}
theorem BW.keepAt (h : BW w gb N L A mem) (hb : gb < w.heap.size → w'.heap[gb]? = w.heap[gb]?) : BW w' gb N L A mem :=
  ⟨h.nn, h.l4, fun hl => by
    obtain ⟨e, f, hr, hf⟩ := h.row hl
    exact ⟨e, f, hr.of_block (hb hr.lt), hf⟩, h.m0⟩
theorem BW.keep (h : BW w gb N L A mem) (hb : Below w.heap.size w w') : BW w' gb N L A mem := h.keepAt fun hlt => hb.block gb hlt
theorem BW.cell (h : BW w gb N L A mem) (i : Nat) (hi : i < L) : w.cell? ⟨gb, i, none⟩ = some (.int .u8 (mem i)) := by
  obtain ⟨_, f, hr, hf⟩ := h.row (by omega)
  rw [hr.cell (i := i) (by have := h.nn; omega), hf i hi]
theorem BW.set (h : BW w gb N L A mem) (j : Nat) (hj : j < L) (b : Nat) (hb : b < 256) : BW (w.setCell ⟨gb, j, none⟩ (.int .u8 (b : Nat))) gb N L A (fun i => if i = j then b else mem i) :=
  ⟨h.nn, h.l4, fun hl => by
    obtain ⟨e, f, hr, hf⟩ := h.row hl
    refine ⟨e, _, hr.set j (.int .u8 (b : Nat)), fun i hi => ?_⟩
    by_cases c : i = j
    · subst c; simp
    · simp [c, hf i hi], fun i hi => by
    show (if i = j then b else mem i) < 256
    split
    · exact hb
    · exact h.m0 i hi⟩
theorem BW.congr (h : BW w gb N L A mem) (he : ∀ i, i < L → mem' i = mem i) : BW w gb N L A mem' :=
  ⟨h.nn, h.l4, fun hl => by
    obtain ⟨e, f, hr, hf⟩ := h.row hl
    exact ⟨e, f, hr, fun i hi => by rw [hf i hi, he i hi]⟩, fun i hi => by rw [he i hi]; exact h.m0 i hi⟩
theorem ldN_cons (mem : Nat → Nat) : ∀ (k a : Nat), ldN mem a (k + 1) = mem a + 256 * ldN mem (a + 1) k
  | 0, a => by simp [ldN]
  | k + 1, a => by
    show ldN mem a (k + 1) + mem (a + (k + 1)) * 256 ^ (k + 1) = mem a + 256 * (ldN mem (a + 1) k + mem (a + 1 + k) * 256 ^ k)
    rw [ldN_cons mem k a, Nat.pow_succ, show a + (k + 1) = a + 1 + k by omega, Nat.mul_add, Nat.add_assoc]
    congr 2
    rw [Nat.mul_comm (256 ^ k) 256, Nat.mul_left_comm]
set_option maxHeartbeats 4000000 in
theorem refLoad_no (A : Option Addr) (L cap at_ k : Nat) (hl : L ≤ 100000) (ha : at_ ≤ 4294967295) (hk : k ≤ 4) (hno : L < at_ + k) :
    Calls Try.prog 27 #[.slice A L cap, .int .u32 at_, .int .i64 k] w fun e w' => e = .returned (.tuple #[.int .u32 0, .int .i64 20]) ∧ w = w' := by
  have f1 : (L : Int) < (at_ : Int) + (k : Int) := by omega
  go_enter Try.func27, Try.ntmps27
  go_wp2_with fail
  go_ret2
  exact ⟨rfl, rfl⟩
set_option maxRecDepth 20000 in
set_option maxHeartbeats 4000000 in
theorem refLoad_ok (h : BW w gb N L A mem) (cap at_ k : Nat) (hcap : L ≤ cap) (hk1 : 1 ≤ k) (hk : k ≤ 4) (hat : at_ + k ≤ L) :
    Calls Try.prog 27 #[.slice A L cap, .int .u32 at_, .int .i64 k] w fun e w' => e = .returned (.tuple #[.int .u32 (ldN mem at_ k : Nat), .int .i64 0]) ∧ w = w' := by
  have hl := h.l4
  obtain ⟨hA, _⟩ := h.row (by omega)
  subst hA
  have HH := Lib.hid h
  have hlt : ∀ a i, a + i ≤ L → ldN mem a i < 256 ^ i := fun a i hi => ldN_lt i (fun j hj => h.m0 _ (by omega))
  have HLT := Lib.hid hlt
  clear h hlt
  have f1 : ¬ ((L : Int) < (at_ : Int) + (k : Int)) := by omega
  go_enter Try.func27, Try.ntmps27
  go_wp2_with fail
  go_loopw [9, 8] (fun s9 s8 wr => ∃ (i : Nat) (x : Nat), i ≤ k ∧ s9 = .int .i64 ((k : Int) - 1 - i) ∧ s8 = .int .u64 x ∧ x = ldN mem (at_ + (k - i)) i ∧ wr = w) (fun s9 _ _ => (intOf s9 + 1).toNat)
  case atStart => exact ⟨0, 0, by omega, by simp, rfl, rfl, rfl⟩
  case round =>
    obtain ⟨i, x, hi, rfl, rfl, hx, rfl⟩ := hrel
    have hx3 : i ≤ 3 → x < 16777216 := fun h3 => by
      have := HLT.out (at_ + (k - i)) i (by omega)
      rw [← hx] at this
      rcases (show i = 0 ∨ i = 1 ∨ i = 2 ∨ i = 3 by omega) with rfl | rfl | rfl | rfl <;> omega
    have hx4 : x < 4294967296 := by
      have := HLT.out (at_ + (k - i)) i (by omega)
      rw [← hx] at this
      rcases (show i = 0 ∨ i = 1 ∨ i = 2 ∨ i = 3 ∨ i = 4 by omega) with rfl | rfl | rfl | rfl | rfl <;> omega
    have HX := Lib.hid hx
    by_cases c : i < k
    · have hx3' := hx3 (by omega)
      obtain ⟨q, hq⟩ : ∃ q : Nat, q = k - 1 - i := ⟨_, rfl⟩
      have e1 : (k : Int) - 1 - i = q := by omega
      rw [e1]
      have hq4 : q ≤ 3 := by omega
      obtain ⟨p, hp⟩ : ∃ p, p = at_ + q := ⟨_, rfl⟩
      have hc := HH.out.cell p (by omega)
      obtain ⟨b, hb⟩ : ∃ b, b = mem p := ⟨_, rfl⟩
      have hb256 : b < 256 := by rw [hb]; exact HH.out.m0 _ (by omega)
      rw [← hb] at hc
      have e2 : (at_ : Int) + (q : Int) = p := by omega
      have hql : p < L := by omega
      have HP := Lib.hid hp
      have HB := Lib.hid hb
      have HQ := Lib.hid hq
      have HE1 := Lib.hid e1
      clear hb hq e1 hx hp
      go_wp2_with fail
      go_roundw
      case rel =>
        refine ⟨i + 1, x * 256 + b, by omega, ?_, by go_num, ?_, by trivial⟩
        · have := HE1.out
          congr 1; omega
        · rw [show at_ + (k - (i + 1)) = p by have := HQ.out; have := HP.out; omega, ldN_cons, ← HB.out, HX.out, show at_ + (k - i) = p + 1 by have := HQ.out; have := HP.out; omega]
          omega
      case measure => (simp [intOf]; try omega)
    · obtain rfl : i = k := by omega
      have e1 : (i : Int) - 1 - i = -1 := by omega
      rw [e1]
      clear hx
      go_wp2_with fail
      go_ret2
      refine ⟨?_, rfl⟩
      have := HX.out
      rw [Nat.sub_self, Nat.add_zero] at this
      rw [← this]
      rfl
theorem stN_zero (mem : Nat → Nat) (a n i : Nat) : stN mem a 0 n i = mem i := by unfold stN; rw [if_neg (by omega)]
theorem stN_succ (mem : Nat → Nat) (a k n i : Nat) : stN mem a (k + 1) n i = if i = a + k then n / 2 ^ (8 * k) % 256 else stN mem a k n i := by
  unfold stN
  by_cases c : i = a + k
  · subst c
    rw [if_pos ⟨by omega, by omega⟩, if_pos rfl, Nat.add_sub_cancel_left]
  · rw [if_neg c]
    by_cases d : a ≤ i ∧ i < a + k
    · rw [if_pos d, if_pos ⟨d.1, by omega⟩]
    · rw [if_neg d, if_neg (by omega)]
set_option maxHeartbeats 4000000 in
theorem refStore_no (A : Option Addr) (L cap at_ k : Nat) (n : Int) (hl : L ≤ 100000) (ha : at_ ≤ 4294967295) (hk : k ≤ 4) (hno : L < at_ + k) :
    Calls Try.prog 48 #[.slice A L cap, .int .u32 at_, .int .i64 k, .int .u32 n] w fun e w' => e = .returned (.int .i64 20) ∧ w = w' := by
  have f1 : (L : Int) < (at_ : Int) + (k : Int) := by omega
  go_enter Try.func48, Try.ntmps48
  go_wp2_with fail
  go_ret
  exact ⟨rfl, rfl⟩
set_option maxRecDepth 20000 in
set_option maxHeartbeats 4000000 in
theorem refStore_ok (h : BW w gb N L A mem) (cap at_ k n : Nat) (hcap : L ≤ cap) (hk1 : 1 ≤ k) (hk : k ≤ 4) (hat : at_ + k ≤ L) (hn : n < 4294967296) :
    Calls Try.prog 48 #[.slice A L cap, .int .u32 at_, .int .i64 k, .int .u32 n] w fun e w' => e = .returned (.int .i64 0) ∧ BW w' gb N L A (stN mem at_ k n) ∧ Chg (fun x => x = gb) w w' := by
  have hl := h.l4
  obtain ⟨hA, _⟩ := h.row (by omega)
  subst hA
  have HH := Lib.hid h
  clear h
  have f1 : ¬ ((L : Int) < (at_ : Int) + (k : Int)) := by omega
  go_enter Try.func48, Try.ntmps48
  go_wp2_with fail
  go_loopw [9, 3] (fun s9 s3 wr => ∃ (i : Nat) (x : Nat), i ≤ k ∧ s9 = .int .i64 i ∧ s3 = .int .u32 x ∧ x = n / 2 ^ (8 * i) ∧ x < 4294967296 ∧ BW wr gb N L (some ⟨gb, 0, none⟩) (stN mem at_ i n) ∧ Chg (fun x => x = gb) w wr) (fun s9 _ _ => k - (intOf s9).toNat)
  case atStart => exact ⟨0, n, by omega, rfl, rfl, by simp, hn, HH.out.congr fun i _ => stN_zero mem at_ n i, Chg.refl _ _⟩
  case round =>
    obtain ⟨i, x, hi, rfl, rfl, hx, hx2, hbw, hch⟩ := hrel
    have HX := Lib.hid hx
    have HBW := Lib.hid hbw
    have HCH := Lib.hid hch
    clear hx hbw hch
    by_cases c : i < k
    · have c1 : (i : Int) < k := by omega
      obtain ⟨p, hp⟩ : ∃ p, p = at_ + i := ⟨_, rfl⟩
      have e2 : (at_ : Int) + (i : Int) = p := by omega
      have hql : p < L := by omega
      obtain ⟨b, hb⟩ : ∃ b, b = x % 256 := ⟨_, rfl⟩
      have hb256 : b < 256 := by omega
      have e3 : (x : Int) % 256 = b := by omega
      obtain ⟨y, hy⟩ : ∃ y, y = x / 256 := ⟨_, rfl⟩
      have e4 : (x : Int) / 256 = y := by omega
      have hy2 : y < 4294967296 := by omega
      have hyx : y = n / 2 ^ (8 * (i + 1)) := by
        rw [hy, HX.out, Nat.div_div_eq_div_mul, show 8 * (i + 1) = 8 * i + 8 by omega, Nat.pow_add]
      have HN := Lib.hid (show BW (wr.setCell ⟨gb, p, none⟩ (.int .u8 (b : Nat))) gb N L (some ⟨gb, 0, none⟩) (stN mem at_ (i + 1) n) from (HBW.out.set p hql b hb256).congr fun j hj => by
        rw [stN_succ, hp]
        by_cases d : j = at_ + i
        · rw [if_pos d, if_pos d, hb, HX.out]
        · rw [if_neg d, if_neg d])
      have HC2 := Lib.hid (HCH.out.trans (Chg.of_one (S := fun x => x = gb) (one_setCell wr gb p (.int .u8 (b : Nat))) rfl) (fun _ _ h => h))
      have hc := HBW.out.cell p hql
      have hfz : wr.frozen? ⟨gb, p, none⟩ = false := by
        obtain ⟨_, f, hr, _⟩ := HBW.out.row (by omega)
        exact hr.frozen _
      have HY := Lib.hid hyx
      clear hp hb hy hyx
      go_wp2_with fail
      go_roundw
      case rel => exact ⟨i + 1, y, by omega, by go_num, rfl, HY.out, hy2, HN.out, HC2.out⟩
      case measure => (simp [intOf]; try omega)
    · obtain rfl : i = k := by omega
      go_wp2_with fail
      go_ret
      exact ⟨rfl, HBW.out, HCH.out⟩
end
end Go.Proofs.Ytapcbfeifeobhaa

set_option linter.unusedVariables false
set_option linter.unusedSimpArgs false
namespace Go.Proofs.Ytapcbfeifeobhaa
open Go.RowKit
/-- The document's machine: its cells. -/
def cpV (s : Mach) (mv : Value) (i : Nat) : Value := if i < 16 then .int .u32 (s.R i) else if i = 16 then .int .u32 s.at_ else mv
/-- The document's machine of m pages: its state at block gy, its memory at block gb. -/
structure DW (w : World) (gy gb N m : Nat) (A : Option Addr) (cap : Nat) (s : Mach) : Prop where
  rw : w.rowIs gy 40 18 (cpV s (.slice A (64 * m) cap))
  bw : BW w gb N (64 * m) A s.mem
  wf : MOk m s
  cp : 64 * m ≤ cap
  ne : gb ≠ gy
def dwS (gy gb : Nat) (k : Nat) : Prop := k = gy ∨ k = gb
section
variable {w w' : World} {gy gb N m cap : Nat} {A : Option Addr} {s s' : Mach}
theorem DW.keep (h : DW w gy gb N m A cap s) (hb : Below w.heap.size w w') : DW w' gy gb N m A cap s :=
  ⟨h.rw.of_block (hb.block gy h.rw.lt), h.bw.keep hb, h.wf, h.cp, h.ne⟩
theorem DW.reg (h : DW w gy gb N m A cap s) (i : Nat) (hi : i < 16) : w.cell? ⟨gy, i, none⟩ = some (.int .u32 (s.R i)) := by
  rw [h.rw.cell (i := i) (by omega)]; unfold cpV; rw [if_pos hi]
theorem DW.at_ (h : DW w gy gb N m A cap s) : w.cell? ⟨gy, 16, none⟩ = some (.int .u32 s.at_) := h.rw.cell (i := 16) (by omega)
theorem DW.mv (h : DW w gy gb N m A cap s) : w.cell? ⟨gy, 17, none⟩ = some (.slice A (64 * m) cap) := h.rw.cell (i := 17) (by omega)
/-- A register turns. -/
theorem DW.setR (h : DW w gy gb N m A cap s) (i : Nat) (hi : i < 16) (v : Int) (h0 : 0 ≤ v) (h1 : v ≤ 4294967295) : DW (w.setCell ⟨gy, i, none⟩ (.int .u32 v)) gy gb N m A cap (setR s i v) :=
  ⟨(h.rw.set i (.int .u32 v)).congr (fun j hj => by
    unfold cpV Proofs.Ytapcbfeifeobhaa.setR
    by_cases c : j = i
    · subst c; simp [hi]
    · simp [c]), h.bw.keepAt (fun hlt => (one_setCell w gy i _).block gb hlt (fun e => h.ne (by injection e with e; exact e.symm))), h.wf.setR i v h0 h1, h.cp, h.ne⟩
/-- Where the next instruction stands turns. -/
theorem DW.setAt (h : DW w gy gb N m A cap s) (v : Int) (h0 : 0 ≤ v) (h1 : v ≤ 4294967295) : DW (w.setCell ⟨gy, 16, none⟩ (.int .u32 v)) gy gb N m A cap (setAt s v) :=
  ⟨(h.rw.set 16 (.int .u32 v)).congr (fun j hj => by
    unfold cpV Proofs.Ytapcbfeifeobhaa.setAt
    by_cases c : j = 16
    · subst c; simp
    · simp [c]), h.bw.keepAt (fun hlt => (one_setCell w gy 16 _).block gb hlt (fun e => h.ne (by injection e with e; exact e.symm))), h.wf.setAt v h0 h1, h.cp, h.ne⟩
/-- The memory turns. -/
theorem DW.mem (h : DW w gy gb N m A cap s) {mem : Nat → Nat} (hb : BW w' gb N (64 * m) A mem) (c : Chg (fun k => k = gb) w w') : DW w' gy gb N m A cap ⟨s.R, s.at_, mem⟩ :=
  ⟨h.rw.of_block (c.block gy h.rw.lt (fun e => h.ne e.symm)), hb, ⟨h.wf.r0, h.wf.a0, hb.m0⟩, h.cp, h.ne⟩
end
def RefP (gy gb N m : Nat) (A : Option Addr) (cap : Nat) (s : Mach) (o x y z : Nat) (w : World) (e : Ending) (w' : World) : Prop :=
  e = .returned (.int .i64 (stepI m s o x y z).2) ∧ DW w' gy gb N m A cap (stepI m s o x y z).1 ∧ Chg (dwS gy gb) w w'
theorem sg16_jump (d : Int) (h0 : 0 ≤ d) (h1 : d ≤ 65535) : sgI 65536 d = jump d := by
  unfold sgI jump
  split <;> split <;> omega
theorem sg8_near (d : Int) (h0 : 0 ≤ d) (h1 : d ≤ 255) : sgI 256 d = near d := by
  unfold sgI near
  split <;> split <;> omega
theorem sgI_le (b n : Int) (hb : 0 < b) : -b ≤ sgI b n ∧ sgI b n ≤ b := by
  have h1 := Int.emod_nonneg n (show b ≠ 0 by omega)
  have h2 := Int.emod_lt_of_pos n hb
  unfold sgI
  split <;> omega
theorem setR_same (s : Mach) (i : Nat) : setR s i (s.R i) = s := by
  cases s
  unfold setR
  congr 1
  funext j
  dsimp only
  split
  · rename_i h; rw [h]
  · rfl
theorem sg32_wrap (n : Int) (h0 : 0 ≤ n) (h1 : n ≤ 4294967295) : sgI 4294967296 n = wrap32 n := by
  unfold sgI
  simp only [wrap32]
  split <;> omega
theorem sx8_sg (n : Int) : sx8 n = sgI 256 n % 4294967296 := by
  have e : IntKind.i8.wrap n = sgI 256 n := by
    unfold sgI
    simp [IntKind.wrap, IntKind.bits, IntKind.signed]
    by_cases c : 128 ≤ n % 256
    · rw [if_pos c, if_pos (by omega)]
    · rw [if_neg c, if_neg (by omega)]
  have h := sgI_le 256 n (by omega)
  unfold sx8
  rw [e]
  simp only [wrap32]
  omega
theorem sx16_sg (n : Int) : sx16 n = sgI 65536 n % 4294967296 := by
  have e : IntKind.i16.wrap n = sgI 65536 n := by
    unfold sgI
    simp [IntKind.wrap, IntKind.bits, IntKind.signed]
    by_cases c : 32768 ≤ n % 65536
    · rw [if_pos c, if_pos (by omega)]
    · rw [if_neg c, if_neg (by omega)]
  have h := sgI_le 65536 n (by omega)
  unfold sx16
  rw [e]
  simp only [wrap32]
  omega
theorem pow_le31 (k : Nat) (h : k ≤ 31) : (1 : Int) ≤ 2 ^ k ∧ (2 : Int) ^ k ≤ 2147483648 := by
  have h1 : 2 ^ k ≤ 2 ^ 31 := Nat.pow_le_pow_right (by omega) h
  have h2 : 1 ≤ 2 ^ k := Nat.one_le_two_pow
  have h3 : ((2 ^ k : Nat) : Int) = (2 : Int) ^ k := by simp
  rw [← h3]
  omega
theorem mul_b (a b c d : Int) (a0 : 0 ≤ a) (a1 : a ≤ c) (b0 : 0 ≤ b) (b1 : b ≤ d) : 0 ≤ a * b ∧ a * b ≤ c * d :=
  ⟨Int.mul_nonneg a0 b0, Int.mul_le_mul a1 b1 b0 (by omega)⟩
theorem div_b (a p : Int) (hp : 1 ≤ p) (h0 : -2147483648 ≤ a) (h1 : a ≤ 4294967295) : -2147483648 ≤ a / p ∧ a / p ≤ 4294967295 := by
  refine ⟨?_, ?_⟩
  · have : -2147483648 * p ≤ a := by
      have : 2147483648 * 1 ≤ 2147483648 * p := Int.mul_le_mul_of_nonneg_left hp (by omega)
      have e : -2147483648 * p = -(2147483648 * p) := by omega
      omega
    exact (Int.le_ediv_iff_mul_le (by omega)).2 this
  · by_cases c : 0 ≤ a
    · exact Int.le_trans (Int.ediv_le_self p c) h1
    · have : a / p < 0 := Int.ediv_neg_of_neg_of_pos (by omega) (by omega)
      omega
theorem tdiv_b (a b : Int) (h0 : -2147483648 ≤ a) (h1 : a ≤ 2147483647) : -2147483648 ≤ a.tdiv b ∧ a.tdiv b ≤ 2147483648 := by
  have h := Int.natAbs_tdiv_le_natAbs a b
  omega
theorem ne_ty {w : World} {a b : Nat} {c c' : Array Value} {t t' : TypeId} {fr fr' : Nat × Nat} (h : w.heap[a]? = some (.cells c t fr)) (h' : w.heap[b]? = some (.cells c' t' fr')) (ht : t ≠ t') : a ≠ b := fun e => by
  subst e
  rw [h] at h'
  injection h' with h'
  injection h' with _ h' _
  exact ht h'
end Go.Proofs.Ytapcbfeifeobhaa

set_option linter.unusedVariables false
set_option linter.unusedSimpArgs false
namespace Go.Proofs.Ytapcbfeifeobhaa
open Go.RowKit
theorem wrapsu32 (n : Int) (h₀ : 0 ≤ n) (h₁ : n < 2 ^ 32) : IntKind.u32.wrap n = n := by rw [IntKind.wrap_u32]; omega
theorem bits_and (a b : Nat) (ha : a < 4294967296) (hb : b < 4294967296) : bits .and .u32 (a : Int) (b : Int) = ((a &&& b : Nat) : Int) := (bits_nat .u32 32 (by decide) wrapsu32 a b ha hb).1
theorem bits_or (a b : Nat) (ha : a < 4294967296) (hb : b < 4294967296) : bits .or .u32 (a : Int) (b : Int) = ((a ||| b : Nat) : Int) := (bits_nat .u32 32 (by decide) wrapsu32 a b ha hb).2
theorem bits_xor (a b : Nat) (ha : a < 4294967296) (hb : b < 4294967296) : bits .xor .u32 (a : Int) (b : Int) = ((a ^^^ b : Nat) : Int) := by
  have ha' : a % 2 ^ IntKind.u32.bits = a := Nat.mod_eq_of_lt ha
  have hb' : b % 2 ^ IntKind.u32.bits = b := Nat.mod_eq_of_lt hb
  simp only [bits, BitVec.ofInt_natCast, BitVec.toNat_xor, BitVec.toNat_ofNat, ha', hb']
  have h : a ^^^ b < 2 ^ 32 := Nat.xor_lt_two_pow ha hb
  exact wrapsu32 _ (Int.natCast_nonneg _) (by exact_mod_cast h)
/-- Of two bits one: 11 and, 12 or, 13 xor. -/
def bt (o p q : Nat) : Nat := if o = 11 then (if p + q = 2 then 1 else 0) else if o = 12 then (if 0 < p + q then 1 else 0) else (if p + q = 1 then 1 else 0)
/-- Of two numbers one. -/
def bo (o p q : Nat) : Nat := if o = 11 then p &&& q else if o = 12 then p ||| q else p ^^^ q
theorem two_rec (x y z : Nat) (h1 : x / 2 = y) (h2 : x % 2 = z) : x = y * 2 + z := by omega
theorem bo_rec (o p q : Nat) : bo o p q = bo o (p / 2) (q / 2) * 2 + bt o (p % 2) (q % 2) := by
  have hp := Nat.mod_two_eq_zero_or_one p
  have hq := Nat.mod_two_eq_zero_or_one q
  unfold bo bt
  by_cases c : o = 11
  · rw [if_pos c, if_pos c, if_pos c]
    refine two_rec _ _ _ (by rw [Nat.and_div_two]) ?_
    have h := Nat.and_mod_two_pow (a := p) (b := q) (n := 1)
    rw [Nat.pow_one] at h
    rw [h]
    rcases hp with e | e <;> rcases hq with f | f <;> rw [e, f] <;> rfl
  · rw [if_neg c, if_neg c, if_neg c]
    by_cases d : o = 12
    · rw [if_pos d, if_pos d, if_pos d]
      refine two_rec _ _ _ (by rw [Nat.or_div_two]) ?_
      have h := Nat.or_mod_two_pow (a := p) (b := q) (n := 1)
      rw [Nat.pow_one] at h
      rw [h]
      rcases hp with e | e <;> rcases hq with f | f <;> rw [e, f] <;> rfl
    · rw [if_neg d, if_neg d, if_neg d]
      refine two_rec _ _ _ (by rw [Nat.xor_div_two]) ?_
      have h := Nat.xor_mod_two_pow (a := p) (b := q) (n := 1)
      rw [Nat.pow_one] at h
      rw [h]
      rcases hp with e | e <;> rcases hq with f | f <;> rw [e, f] <;> rfl
theorem bo_step (o a b k : Nat) : bo o (a / 2 ^ k) (b / 2 ^ k) = bo o (a / 2 ^ (k + 1)) (b / 2 ^ (k + 1)) * 2 + bt o (a / 2 ^ k % 2) (b / 2 ^ k % 2) := by
  rw [bo_rec, Nat.div_div_eq_div_mul, Nat.div_div_eq_div_mul, Nat.pow_succ]
theorem bo_zero (o : Nat) : bo o 0 0 = 0 := by unfold bo; split <;> (try split) <;> rfl
theorem bo_lt (o a b n : Nat) (ha : a < 2 ^ n) (hb : b < 2 ^ n) : bo o a b < 2 ^ n := by
  unfold bo
  split
  · exact Nat.and_lt_two_pow _ hb
  · split
    · exact Nat.or_lt_two_pow ha hb
    · exact Nat.xor_lt_two_pow ha hb
/-- Turned by c. -/
def rk (a c : Nat) : Nat := a * 2 ^ c % 4294967296 + a / 2 ^ (32 - c)
theorem rk_zero (a : Nat) (h : a < 4294967296) : rk a 0 = a := by unfold rk; simp; omega
theorem rk_alg (a P Q : Nat) (hPQ : P * Q = 2147483648) (h : a < 4294967296) :
    a * (2 * P) % 4294967296 + a / Q = (a * P % 4294967296 + a / (Q * 2)) * 2 % 4294967296 + (a * P % 4294967296 + a / (Q * 2)) / 2147483648 ∧ a * P % 4294967296 + a / (Q * 2) < 4294967296 := by
  have hQ : 0 < Q := Nat.pos_of_ne_zero (fun e => by rw [e] at hPQ; simp at hPQ)
  have hP : 0 < P := Nat.pos_of_ne_zero (fun e => by rw [e] at hPQ; simp at hPQ)
  have hd := Nat.div_add_mod a Q
  have hl := Nat.mod_lt a hQ
  rw [← Nat.div_div_eq_div_mul]
  obtain ⟨q, hq⟩ : ∃ q, q = a / Q := ⟨_, rfl⟩
  obtain ⟨l, hl2⟩ : ∃ l, l = a % Q := ⟨_, rfl⟩
  rw [← hq, ← hl2] at hd
  rw [← hl2] at hl
  rw [← hq]
  obtain ⟨m, hm⟩ : ∃ m, m = l * P := ⟨_, rfl⟩
  have hX : a * P = 2147483648 * q + m := by
    rw [← hd, Nat.add_mul, ← hm, show Q * q * P = P * Q * q by rw [Nat.mul_comm (Q * q) P, Nat.mul_assoc], hPQ]
  have hm2 : m + P ≤ 2147483648 := by
    have : (l + 1) * P ≤ Q * P := Nat.mul_le_mul_right P hl
    rw [Nat.add_mul, Nat.one_mul, ← hm, Nat.mul_comm Q P, hPQ] at this
    exact this
  have hq2 : q < 2 * P := by
    rw [hq]
    refine Nat.div_lt_of_lt_mul ?_
    rw [show Q * (2 * P) = 2 * (P * Q) by rw [Nat.mul_left_comm, Nat.mul_comm Q P], hPQ]
    omega
  have hX2 : a * (2 * P) = 2 * (2147483648 * q + m) := by rw [Nat.mul_left_comm, hX]
  rw [hX, hX2]
  have e1 : (2147483648 * q + m) % 4294967296 = 2147483648 * (q % 2) + m := by omega
  have e2 : 2 * (2147483648 * q + m) % 4294967296 = 2 * m := by omega
  rw [e1, e2]
  have ht := Nat.mod_two_eq_zero_or_one q
  have hh : q / 2 < P := by omega
  rcases ht with e | e
  · rw [e]
    have e3 : (2147483648 * 0 + m + q / 2) * 2 % 4294967296 = 2 * m + 2 * (q / 2) := by omega
    have e4 : (2147483648 * 0 + m + q / 2) / 2147483648 = 0 := by omega
    rw [e3, e4]
    omega
  · rw [e]
    have e3 : (2147483648 * 1 + m + q / 2) * 2 % 4294967296 = 2 * m + 2 * (q / 2) := by omega
    have e4 : (2147483648 * 1 + m + q / 2) / 2147483648 = 1 := by omega
    rw [e3, e4]
    omega
theorem rk_step (a c : Nat) (h : a < 4294967296) (hc : c < 31) : rk a (c + 1) = rk a c * 2 % 4294967296 + rk a c / 2147483648 ∧ rk a c < 4294967296 := by
  have h1 := rk_alg a (2 ^ c) (2 ^ (31 - c)) (by rw [← Nat.pow_add, show c + (31 - c) = 31 by omega]) h
  unfold rk
  rw [show 32 - (c + 1) = 31 - c by omega, show 32 - c = (31 - c) + 1 by omega, Nat.pow_succ, Nat.pow_succ, Nat.mul_comm (2 ^ c) 2]
  exact h1
set_option maxHeartbeats 8000000 in
theorem rotI_rk (a k : Nat) (h : a < 4294967296) (hk : k < 32) : rotI (a : Int) (k : Int) = ((rk a k : Nat) : Int) := by
  unfold rotI rk
  rw [Int.toNat_natCast, show ((32 : Int) - (k : Int)).toNat = 32 - k by omega]
  have e1 : (a : Int) * 2 ^ k % 4294967296 = ((a * 2 ^ k % 4294967296 : Nat) : Int) := by simp
  have e2 : (a : Int) / 2 ^ (32 - k) = ((a / 2 ^ (32 - k) : Nat) : Int) := by simp
  rw [e1, e2]
  obtain ⟨x, hx⟩ : ∃ x, x = a * 2 ^ k % 4294967296 := ⟨_, rfl⟩
  obtain ⟨y, hy⟩ : ∃ y, y = a / 2 ^ (32 - k) := ⟨_, rfl⟩
  rw [← hx, ← hy]
  have hyk : y < 2 ^ k := by
    rw [hy]
    refine Nat.div_lt_of_lt_mul ?_
    rw [← Nat.pow_add, show 32 - k + k = 32 by omega]
    exact h
  have hxk : x % 2 ^ k = 0 := by
    rw [hx]
    have e : 4294967296 = 2 ^ k * 2 ^ (32 - k) := by rw [← Nat.pow_add, show k + (32 - k) = 32 by omega]
    rw [e, Nat.mod_mul_right_mod, Nat.mul_mod_left]
  have hk32 : 2 ^ k ≤ 2 ^ 32 := Nat.pow_le_pow_right (by omega) (by omega)
  have h1 : ((x : Nat) : Int) % 2 ^ k = 0 := by exact_mod_cast hxk
  have h2 : ((y : Nat) : Int) < 2 ^ k := by exact_mod_cast hyk
  rw [bits_join .u32 32 (by decide) wrapsu32 k x y (Int.natCast_nonneg _) h1 (by have : x < 4294967296 := by rw [hx]; exact Nat.mod_lt _ (by omega)
                                                                                 omega) (Int.natCast_nonneg _) h2 (by omega)]
  omega
/-- How many leading noughts. -/
theorem bitLen_is (y l : Nat) (h : y < 2 ^ l) (h' : l = 0 ∨ 2 ^ (l - 1) ≤ y) (hl : l ≤ 32) : Lib.bitLen y = l := by
  rcases h' with rfl | h'
  · have : y = 0 := by simpa using h
    subst this
    rfl
  · by_cases c : l = 0
    · subst c
      have : y = 0 := by simpa using h
      subst this
      rfl
    · have hp : 2 ^ l ≤ 2 ^ 32 := Nat.pow_le_pow_right (by omega) hl
      rw [Lib.bitLen_shift (l - 1) y h' (by omega)]
      have e : y / 2 ^ (l - 1) = 1 := by
        have h2 : 2 ^ l = 2 * 2 ^ (l - 1) := by rw [← Nat.pow_succ']; congr 1; omega
        refine Nat.div_eq_of_lt_le (by omega) (by omega)
      rw [e, show Lib.bitLen 1 = 1 from by decide]
      omega
theorem lenI_bitLen (y : Nat) (h : y < 4294967296) : lenI (y : Int) = (Lib.bitLen y : Int) := by
  unfold lenI
  by_cases c : 65536 ≤ y
  · rw [if_pos (by omega)]
    by_cases d : 16777216 ≤ y
    · rw [if_pos (by omega), Lib.len8_of _ (by omega) (by omega), Lib.bitLen_shift24 y d (by omega), show ((y : Int) / 16777216).toNat = y / 16777216 by omega]
      omega
    · rw [if_neg (by omega), Lib.len8_of _ (by omega) (by omega), Lib.bitLen_shift16 y c (by omega), show ((y : Int) / 65536).toNat = y / 65536 by omega]
      omega
  · rw [if_neg (by omega)]
    by_cases d : 256 ≤ y
    · rw [if_pos (by omega), Lib.len8_of _ (by omega) (by omega), Lib.bitLen_shift8 y d (by omega), show ((y : Int) / 256).toNat = y / 256 by omega]
      omega
    · rw [if_neg (by omega), Lib.len8_of _ (by omega) (by omega), show ((y : Int)).toNat = y by omega]
/-- How many of the lowest k bits are ones. -/
def bs (y : Nat) : Nat → Nat
  | 0 => 0
  | k + 1 => bs y k + y / 2 ^ k % 2
theorem bs_le (y : Nat) : ∀ k, bs y k ≤ k
  | 0 => Nat.le_refl _
  | k + 1 => by
    have := bs_le y k
    have := Nat.mod_lt (y / 2 ^ k) (show 0 < 2 by omega)
    show bs y k + y / 2 ^ k % 2 ≤ k + 1
    omega
theorem bs_shift (y : Nat) : ∀ k, bs y (8 + k) = bs y 8 + bs (y / 256) k
  | 0 => rfl
  | k + 1 => by
    show bs y (8 + k) + y / 2 ^ (8 + k) % 2 = bs y 8 + (bs (y / 256) k + y / 256 / 2 ^ k % 2)
    rw [bs_shift y k, Nat.div_div_eq_div_mul, show 256 * 2 ^ k = 2 ^ (8 + k) by rw [Nat.pow_add], Nat.add_assoc]
theorem bs_low (y : Nat) : bs y 8 = bs (y % 256) 8 := by
  simp only [bs, Nat.reducePow]
  omega
theorem pop8_bs : ∀ n : Fin 256, Lib.pop8 (n.val : Int) = (bs n.val 8 : Int) := by decide +kernel
theorem pop8_of (y : Nat) (h : y < 256) : Lib.pop8 (y : Int) = (bs y 8 : Int) := pop8_bs ⟨y, h⟩
theorem popI_bs (y : Nat) (h : y < 4294967296) : popI (y : Int) = (bs y 32 : Int) := by
  unfold popI
  rw [show (y : Int) / 16777216 = ((y / 16777216 : Nat) : Int) by omega, show (y : Int) / 65536 % 256 = ((y / 65536 % 256 : Nat) : Int) by omega, show (y : Int) / 256 % 256 = ((y / 256 % 256 : Nat) : Int) by omega, show (y : Int) % 256 = ((y % 256 : Nat) : Int) by omega]
  rw [pop8_of _ (by omega), pop8_of _ (by omega), pop8_of _ (by omega), pop8_of _ (by omega)]
  rw [show (32 : Nat) = 8 + (8 + (8 + 8)) from rfl, bs_shift, bs_shift, bs_shift, bs_low y, bs_low (y / 256), bs_low (y / 256 / 256), Nat.div_div_eq_div_mul, Nat.div_div_eq_div_mul]
  simp only [Nat.reduceMul]
  omega
end Go.Proofs.Ytapcbfeifeobhaa

set_option linter.unusedVariables false
set_option linter.unusedSimpArgs false
namespace Go.Proofs.Ytapcbfeifeobhaa
open Go.RowKit
theorem stepPre {w : World} {gy gb N m cap : Nat} {A : Option Addr} {s : Mach} (h : DW w gy gb N m A cap s) (x y z : Nat) (hx : x < 16) (hy : y ≤ 255) (hz : z ≤ 255) :
    ∃ (ym zm : Nat) (vx vy vz va nx wd sj q4 far sn q8 nr : Int), ((y : Int) % 16 = ym) ∧ ((ym : Int) < 16) ∧ ((z : Int) % 16 = zm) ∧ ((zm : Int) < 16) ∧ ((x : Int) % 16 = x) ∧ ((x : Int) < 16) ∧ (0 ≤ vx ∧ vx ≤ 4294967295) ∧ (0 ≤ vy ∧ vy ≤ 4294967295) ∧ (0 ≤ vz ∧ vz ≤ 4294967295) ∧ (0 ≤ va ∧ va ≤ 4294967295) ∧ (0 ≤ nx ∧ nx ≤ 4294967295) ∧ ((va + 4) % 4294967296 = nx) ∧ (0 ≤ wd ∧ wd ≤ 65535) ∧ ((y : Int) + 256 * (z : Int) = wd) ∧ (-32768 ≤ sj ∧ sj ≤ 32767) ∧ (nx + 4 * sj = q4) ∧ (0 ≤ far ∧ far ≤ 4294967295) ∧ (-128 ≤ sn ∧ sn ≤ 127) ∧ (vy + sn = q8) ∧ (0 ≤ nr ∧ nr ≤ 4294967295) ∧ Hid (ym = y % 16) ∧ Hid (zm = z % 16) ∧ Hid (vx = s.R x) ∧ Hid (vy = s.R ym) ∧ Hid (vz = s.R zm) ∧ Hid (nx = nextI s) ∧ Hid (wd = wideI y z) ∧ Hid (sj = jump wd) ∧ Hid (far = toI y z nx) ∧ Hid (sn = near z) ∧ Hid (nr = (vy + sn % 4294967296) % 4294967296) ∧ Hid (va = s.at_) ∧ Hid (∀ w, Calls Try.prog 47 #[.int .u32 wd, .int .i64 16] w fun e w' => e = .returned (.int .i64 sj) ∧ w = w') ∧ Hid (∀ w, Calls Try.prog 46 #[.int .i64 q4] w fun e w' => e = .returned (.int .u32 far) ∧ w = w') ∧ Hid (∀ w, Calls Try.prog 47 #[.int .u32 (z : Int), .int .i64 8] w fun e w' => e = .returned (.int .i64 sn) ∧ w = w') ∧ Hid (∀ w, Calls Try.prog 46 #[.int .i64 q8] w fun e w' => e = .returned (.int .u32 nr) ∧ w = w') ∧ Hid (q4 = nx + 4 * sj) ∧ Hid (q8 = vy + sn) ∧ Hid (vx = s.R (x % 16)) := by
  obtain ⟨ym, hym⟩ : ∃ k, k = y % 16 := ⟨_, rfl⟩
  have fym : (y : Int) % 16 = ym := by omega
  have lym : (ym : Int) < 16 := by omega
  obtain ⟨zm, hzm⟩ : ∃ k, k = z % 16 := ⟨_, rfl⟩
  have fzm : (z : Int) % 16 = zm := by omega
  have lzm : (zm : Int) < 16 := by omega
  have fx : (x : Int) % 16 = x := by omega
  have lx : (x : Int) < 16 := by omega
  obtain ⟨vx, hvx⟩ : ∃ k, k = s.R x := ⟨_, rfl⟩
  obtain ⟨vy, hvy⟩ : ∃ k, k = s.R ym := ⟨_, rfl⟩
  obtain ⟨vz, hvz⟩ : ∃ k, k = s.R zm := ⟨_, rfl⟩
  obtain ⟨va, hva⟩ : ∃ k, k = s.at_ := ⟨_, rfl⟩
  obtain ⟨nx, hnx⟩ : ∃ k, k = nextI s := ⟨_, rfl⟩
  have rx := h.wf.r0 x hx
  have ry := h.wf.r0 ym (by omega)
  have rz := h.wf.r0 zm (by omega)
  have ra := h.wf.a0
  have rn := nextI_le s
  rw [← hvx] at rx
  rw [← hvy] at ry
  rw [← hvz] at rz
  rw [← hva] at ra
  rw [← hnx] at rn
  have fn2 : (va + 4) % 4294967296 = nx := by rw [hnx, hva]; rfl
  obtain ⟨wd, hwd⟩ : ∃ k, k = wideI y z := ⟨_, rfl⟩
  have rw0 : 0 ≤ wd ∧ wd ≤ 65535 := by rw [hwd]; unfold wideI; omega
  have fwd : (y : Int) + 256 * (z : Int) = wd := by rw [hwd]; rfl
  obtain ⟨sj, hsj⟩ : ∃ k, k = jump wd := ⟨_, rfl⟩
  have rj : -32768 ≤ sj ∧ sj ≤ 32767 := by rw [hsj]; unfold jump; split <;> omega
  have hs16 := fun w => refSigned16 wd rw0.1 (by omega) w
  rw [sg16_jump wd rw0.1 rw0.2, ← hsj] at hs16
  obtain ⟨q4, hq4⟩ : ∃ k, k = nx + 4 * sj := ⟨_, rfl⟩
  have fq4 : nx + 4 * sj = q4 := hq4.symm
  have hwr := fun w => refWrap_any q4 (by omega) (by omega) w
  obtain ⟨far, hfar⟩ : ∃ k, k = toI y z nx := ⟨_, rfl⟩
  have rf := toI_le y z nx
  rw [← hfar] at rf
  rw [show q4 % 4294967296 = far by rw [hfar, hq4, hsj, hwd]; unfold toI; omega] at hwr
  obtain ⟨sn, hsn⟩ : ∃ k, k = near z := ⟨_, rfl⟩
  have rsn : -128 ≤ sn ∧ sn ≤ 127 := by rw [hsn]; unfold near; split <;> omega
  have hs8 := fun w => refSigned8 (z : Int) (by omega) (by omega) w
  rw [sg8_near (z : Int) (by omega) (by omega), ← hsn] at hs8
  obtain ⟨q8, hq8⟩ : ∃ k, k = vy + sn := ⟨_, rfl⟩
  have fq8 : vy + sn = q8 := hq8.symm
  have hwn := fun w => refWrap_any q8 (by omega) (by omega) w
  obtain ⟨nr, hnr⟩ : ∃ k, k = (vy + sn % 4294967296) % 4294967296 := ⟨_, rfl⟩
  have rnr : 0 ≤ nr ∧ nr ≤ 4294967295 := by omega
  rw [show q8 % 4294967296 = nr by omega] at hwn
  exact ⟨ym, zm, vx, vy, vz, va, nx, wd, sj, q4, far, sn, q8, nr, fym, lym, fzm, lzm, fx, lx, rx, ry, rz, ra, rn, fn2, rw0, fwd, rj, fq4, rf, rsn, fq8, rnr, Lib.hid hym, Lib.hid hzm, Lib.hid hvx, Lib.hid hvy, Lib.hid hvz, Lib.hid hnx, Lib.hid hwd, Lib.hid hsj, Lib.hid hfar, Lib.hid hsn, Lib.hid hnr, Lib.hid hva, Lib.hid hs16, Lib.hid hwr, Lib.hid hs8, Lib.hid hwn, Lib.hid hq4, Lib.hid hq8, Lib.hid (by rw [Nat.mod_eq_of_lt hx]; exact hvx)⟩
end Go.Proofs.Ytapcbfeifeobhaa
