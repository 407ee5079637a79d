/- Configurations: what registered labels are; small contracts of package conf. -/
import Derived.Test.YtapcbfeifeobhaaGen
import Derived.Test.YtapcbfeifeobhaaMap
import Derived.Test.YtapcbfeifeobhaaLabB
set_option linter.unusedVariables false
set_option linter.unusedSimpArgs false
namespace Go.Proofs.Ytapcbfeifeobhaa
open Go.RowKit

/-- A registered label. -/
structure RegL where
  name : ByteArray
  lab : Nat × Nat
  bl : Nat
  no : Nat
  fr : Nat
  pr : Nat
  op : Nat
  cl : Nat
def regArr (r : RegL) : Array Value := #[.string r.name, .int .u8 r.lab.1, .int .u16 r.lab.2, .int .i64 r.bl, .int .i64 r.no, .int .i64 r.fr, .int .i64 r.pr, .int .i64 r.op, .int .i64 r.cl]
def regV (r : RegL) : Value := .agg (regArr r)
/-- May it be one among so many? -/
structure okR (many : Nat) (r : RegL) : Prop where
  n1 : 1 ≤ r.name.size
  n8 : r.name.size ≤ 8
  letters : ∀ b ∈ r.name.data.toList, 97 ≤ b.toNat ∧ b.toNat ≤ 122
  lev : r.lab.1 ≤ 15
  cats : r.lab.2 < 65536
  bl1 : 4 ≤ r.bl
  bl2 : r.bl ≤ 512
  no1 : 4 ≤ r.no
  no2 : r.no ≤ 128
  even : r.no % 2 = 0
  fr1 : 1 ≤ r.fr
  fr2 : r.fr ≤ 256
  pr1 : 1 ≤ r.pr
  pr2 : r.pr ≤ 16
  op1 : 1 ≤ r.op
  op2 : r.op ≤ 32
  cl : r.cl < many
theorem okR.lab_ok {many : Nat} {r : RegL} (h : okR many r) : okL r.lab := ⟨by have := h.lev; omega, h.cats⟩

set_option maxHeartbeats 1000000 in
theorem labValid_yes (p : Nat × Nat) (hp : p.1 ≤ 15) (w : World) :
    Calls Try.prog 76 #[.agg #[.int .u8 p.1, .int .u16 p.2]] w fun e w' => e = .returned (.bool true) ∧ Below w.heap.size w w' := by
  go_enter Try.func76, Try.ntmps76
  go_wp2_with fail
  go_ret
  exact ⟨ret_bool (by simp; omega), bnew _ _⟩

set_option maxHeartbeats 1000000 in
theorem within_yes (n a b : Int) (h1 : a ≤ n) (h2 : n ≤ b) (w : World) :
    Calls Try.prog 78 #[.int .i64 n, .int .i64 a, .int .i64 b] w fun e w' => e = .returned (.bool true) ∧ w = w' := by
  go_enter Try.func78, Try.ntmps78
  go_wp2_with fail
  go_ret
  exact ⟨ret_bool (by simp), rfl⟩

set_option maxHeartbeats 2000000 in
theorem sound_yes (r : RegL) (many : Nat) (h : okR many r) (w : World) :
    Calls Try.prog 77 #[.agg (regArr r)] w fun e w' => e = .returned (.bool true) ∧ Below w.heap.size w w' := by
  obtain ⟨nm, lb, bl, no, fr, pr, op, cl⟩ := r
  obtain ⟨_, _, _, _, _, h1, h2, h3, h4, h5, h6, h7, h8, h9, h10, h11, _⟩ := h
  simp only at h1 h2 h3 h4 h5 h6 h7 h8 h9 h10 h11
  unfold regArr
  have e2 : ((no : Int) % 2 == 0) = true := by simp; omega
  go_enter Try.func77, Try.ntmps77
  go_wp2_with (go_at_call 78; refine (within_yes _ _ _ (by omega) (by omega) _).mono ?_; rintro e w1 ⟨rfl, rfl⟩)
  go_ret
  exact ⟨rfl, bnew _ _⟩

set_option maxHeartbeats 2000000 in
theorem confName_yes (s : ByteArray) (h1 : 1 ≤ s.size) (h8 : s.size ≤ 8) (hl : ∀ b ∈ s.data.toList, 97 ≤ b.toNat ∧ b.toNat ≤ 122) (w : World) :
    Calls Try.prog 75 #[.string s] w fun e w' => e = .returned (.bool true) ∧ Below w.heap.size w w' := by
  have hb : ∀ (k : Nat) (hk : k < s.size), 97 ≤ s[k].toNat ∧ s[k].toNat ≤ 122 := fun k hk => hl _ (by
    have : s[k] = s.data.toList[k]'(by simpa using hk) := rfl
    rw [this]
    exact List.getElem_mem _)
  have HB := Lib.hid hb
  clear hb hl
  go_enter Try.func75, Try.ntmps75
  go_wp2
  go_loopw [2] (fun r wr => ∃ k, k ≤ s.size ∧ r = .bool false ∧ wr = w.iter s k) (fun _ wr => s.size - wr.iterPos w.heap.size)
  case atStart => exact ⟨0, by omega, rfl, rfl⟩
  case round =>
    obtain ⟨k, hk, rfl, rfl⟩ := hrel
    by_cases hlt : k < s.size
    · obtain ⟨c1, c2⟩ := HB.out k hlt
      have hnx := fun ty => run_next_ascii (P := Try.prog) w s k ty hlt (by omega)
      go_wp2
      go_roundw
      case rel => exact ⟨k + 1, by omega, rfl, rfl⟩
      case measure => simp; omega
    · have hnx := fun ty => run_next_end (P := Try.prog) w s k ty hlt
      go_wp2
      go_ret
      exact ⟨rfl, bnew w _⟩
end Go.Proofs.Ytapcbfeifeobhaa
