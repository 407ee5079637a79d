/- Labels: contracts of math/bits' two, Cats, Rank. -/
import Derived.Test.YtmieioaklgdbdaaDoorLabD
import Derived.Lib.BitFns
set_option linter.unusedVariables false
set_option linter.unusedSimpArgs false
namespace Go.Proofs.YtmieioaklgdbdaaDoor
open Go.RowKit

/-- The table of math/bits. -/
def Tab (w : World) : Prop := ∀ j, j < 32 → w.cell? ⟨0, j, none⟩ = some (.int .u8 ((Lib.deBruijn32tab.getD j 0 : Nat) : Int))
theorem Tab.keep {w w' : World} (h : Tab w) (hb : Below w.heap.size w w') : Tab w' := fun j hj => by
  have h0 := h 0 (by omega)
  have hlt : 0 < w.heap.size := block_lt_of_cell h0
  rw [(bcell hb).1 0 j hlt]
  exact h j hj

theorem tz16_key (x a : Nat) (hx : x < 65536) (hx0 : x ≠ 0) (hlow : x &&& (65536 - x) = a) (ha : a < 65536) :
    bits BinOp.and IntKind.u16 (x : Int) (IntKind.u16.wrap (-(x : Int))) % 4294967296 * 125613361 % 4294967296 / 134217728 = ((a * 125613361 % 4294967296 / 134217728 : Nat) : Int) := by
  have e1 : IntKind.u16.wrap (-(x : Int)) = ((65536 - x : Nat) : Int) := by rw [IntKind.wrap_u16]; omega
  rw [e1, bits_and_u16 x _ hx (by omega), hlow]
  omega

set_option maxHeartbeats 1000000 in
theorem tz16_core (x k idx : Nat) (hx0 : ((x : Int) == 0) = false) (w : World)
    (key : bits BinOp.and IntKind.u16 (x : Int) (IntKind.u16.wrap (-(x : Int))) % 4294967296 * 125613361 % 4294967296 / 134217728 = (idx : Int)) (hi : idx < 32) (hk : k < 32) (hcell : w.cell? ⟨0, idx, none⟩ = some (.int .u8 k)) :
    Calls Tryd.prog 22 #[.int .u16 x] w fun e w' => e = .returned (.int .i64 k) ∧ w' = w := by
  go_enter Tryd.func22, Tryd.ntmps22
  go_wp2_with (simp only [key])
  go_ret
  exact ⟨rfl, rfl⟩

theorem tz16_any (x : Nat) (hx : x < 65536) (hx0 : x ≠ 0) (w : World) (hT : Tab w) :
    Calls Tryd.prog 22 #[.int .u16 x] w fun e w' => e = .returned (.int .i64 (Lib.ctz 16 x : Nat)) ∧ w' = w := by
  obtain ⟨hlow, hk⟩ := Lib.lowest_bit 16 x hx0 hx
  obtain ⟨hi, htab⟩ := Lib.deBruijn32_at (Lib.ctz 16 x) (by omega)
  have hcell := hT _ hi
  rw [htab] at hcell
  have hp : 2 ^ Lib.ctz 16 x < 65536 := (Nat.pow_lt_pow_right (by omega) hk : 2 ^ Lib.ctz 16 x < 2 ^ 16)
  exact tz16_core x (Lib.ctz 16 x) _ (by rw [beq_eq_false_iff_ne]; omega) w (tz16_key x _ hx hx0 hlow hp) hi (by omega) hcell

def cnt8 (n : Nat) : Nat := ((List.range 8).filter fun j => n.testBit j).length
theorem pop8_cnt : ∀ n : Fin 256, Lib.pop8 (n.val : Int) = (cnt8 n.val : Int) := by decide +kernel
theorem cnt8_le (n : Nat) : cnt8 n ≤ 8 := Nat.le_trans (List.length_filter_le _ _) (by simp)
theorem filter_len {α : Type} (p q : α → Bool) (l : List α) (h : ∀ x ∈ l, p x = q x) : (l.filter p).length = (l.filter q).length := by rw [List.filter_congr h]
theorem filter_map_len {α β : Type} (f : α → β) (p : β → Bool) (l : List α) : ((l.map f).filter p).length = (l.filter (fun x => p (f x))).length := by
  rw [List.filter_map, List.length_map]; rfl
theorem cats_len (x y : Nat) (hy : x &&& 255 = y) : (catsL x).length = cnt8 (x / 256) + cnt8 y := by
  unfold catsL cnt8
  rw [show List.range 16 = List.range 8 ++ (List.range 8).map (8 + ·) by decide, List.filter_append, List.length_append, filter_map_len, Nat.add_comm]
  congr 1
  · refine filter_len _ _ _ (fun j hj => ?_)
    rw [Nat.testBit_eq_decide_div_mod_eq, Nat.testBit_eq_decide_div_mod_eq, Nat.pow_add, Nat.div_div_eq_div_mul]
  · refine filter_len _ _ _ (fun j hj => ?_)
    rw [← hy, Nat.testBit_and]
    have : ∀ j, j < 8 → Nat.testBit 255 j = true := by decide
    rw [this j (by simpa using hj), Bool.and_true]

end Go.Proofs.YtmieioaklgdbdaaDoor
