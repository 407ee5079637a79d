/- Nodes: the document's two, Encode. -/
import Derived.Test.YtonfnlohbgbffaaNodH
import Derived.Test.YtonfnlohbgbffaaMk
set_option linter.unusedVariables false
set_option linter.unusedSimpArgs false
namespace Go.Proofs.Ytonfnlohbgbffaa
open Go.RowKit

def u8s (L : List Nat) : List Value := L.map fun (b : Nat) => Value.int .u8 b
theorem u8s_append (L M : List Nat) : u8s (L ++ M) = u8s L ++ u8s M := List.map_append
theorem u8s_one (L : List Nat) : ∀ u ∈ u8s L, u.oneCell' = true := fun u hu => by
  obtain ⟨b, _, rfl⟩ := List.mem_map.1 hu
  rfl
/-- A slice of bytes of the call's own. -/
def BS (w : World) (base : Nat) (v : Value) (L : List Nat) : Prop := w.ownsRow base 5 1 v L.length (u8s L)
def twoL (x : Nat) : List Nat := [x % 256, x / 256]
set_option maxRecDepth 20000 in
set_option maxHeartbeats 4000000 in
theorem refTwo_in (x : Nat) (hx : x ≤ 65535) (w : World) : Calls Try.prog 67 #[.int .u16 x] w fun e w' => ∃ v, e = .returned v ∧ BS w' w.heap.size v (twoL x) ∧ Below w.heap.size w w' := by
  obtain ⟨r, hr⟩ : ∃ r, r = x % 256 := ⟨_, rfl⟩
  obtain ⟨q, hq⟩ : ∃ q, q = x / 256 := ⟨_, rfl⟩
  have f1 : (x : Int) % 256 = r := by omega
  have f2 : (x : Int).tmod 256 = r := by rw [Int.tmod_eq_emod_of_nonneg (by omega)]; omega
  have f3 : (x : Int) / 256 = q := by omega
  have f4 : (x : Int).tdiv 256 = q := by rw [Int.tdiv_eq_ediv_of_nonneg (by omega)]; omega
  have f5 : IntKind.u8.wrap (r : Int) = r := by simp [IntKind.wrap, IntKind.bits, IntKind.signed]; omega
  have f6 : IntKind.u8.wrap (q : Int) = q := by simp [IntKind.wrap, IntKind.bits, IntKind.signed]; omega
  have f7 : IntKind.u16.wrap (q : Int) = q := by simp [IntKind.wrap, IntKind.bits, IntKind.signed]; omega
  unfold twoL
  rw [← hr, ← hq]
  clear hr hq
  have hb := bnew w (.cells #[.int .u8 (r : Int), .int .u8 (q : Int)] 5)
  have ho := World.ownsRow_lit w #[.int .u8 (r : Int), .int .u8 (q : Int)] 2 (size := 1) (e := 5) (Nat.le_refl _) (by simp [maxLen]) rfl
  have HO := Lib.hid ho
  have HB := Lib.hid hb
  clear ho hb
  go_enter Try.func67, Try.ntmps67
  go_wp2_with fail
  go_ret
  exact ⟨_, rfl, HO.out, HB.out⟩
end Go.Proofs.Ytonfnlohbgbffaa
