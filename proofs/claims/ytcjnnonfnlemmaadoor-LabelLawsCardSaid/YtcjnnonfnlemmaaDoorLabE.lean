/- Labels: contracts of math/bits' two, Cats, Rank. -/
import Derived.Test.YtcjnnonfnlemmaaDoorLabD
import Derived.Lib.BitFns
set_option linter.unusedVariables false
set_option linter.unusedSimpArgs false
namespace Go.Proofs.YtcjnnonfnlemmaaDoor
open Go.RowKit

/-- The table of math/bits. -/
def Tab (w : World) : Prop := ∀ j, j < 32 → w.cell? ⟨0, j, none⟩ = some (.int .u8 ((Lib.deBruijn32tab.getD j 0 : Nat) : Int))
theorem Tab.keep {w w' : World} (h : Tab w) (hb : Below w.heap.size w w') : Tab w' := fun j hj => by
  have h0 := h 0 (by omega)
  have hlt : 0 < w.heap.size := block_lt_of_cell h0
  rw [(bcell hb).1 0 j hlt]
  exact h j hj

theorem tz16_key (x a : Nat) (hx : x < 65536) (hx0 : x ≠ 0) (hlow : x &&& (65536 - x) = a) (ha : a < 65536) :
    bits BinOp.and IntKind.u16 (x : Int) (IntKind.u16.wrap (-(x : Int))) % 4294967296 * 125613361 % 4294967296 / 134217728 = ((a * 125613361 % 4294967296 / 134217728 : Nat) : Int) := by
  have e1 : IntKind.u16.wrap (-(x : Int)) = ((65536 - x : Nat) : Int) := by rw [IntKind.wrap_u16]; omega
  rw [e1, bits_and_u16 x _ hx (by omega), hlow]
  omega

set_option maxHeartbeats 1000000 in
theorem tz16_core (x k idx : Nat) (hx0 : ((x : Int) == 0) = false) (w : World)
    (key : bits BinOp.and IntKind.u16 (x : Int) (IntKind.u16.wrap (-(x : Int))) % 4294967296 * 125613361 % 4294967296 / 134217728 = (idx : Int)) (hi : idx < 32) (hk : k < 32) (hcell : w.cell? ⟨0, idx, none⟩ = some (.int .u8 k)) :
    Calls Tryd.prog 30 #[.int .u16 x] w fun e w' => e = .returned (.int .i64 k) ∧ w' = w := by
  go_enter Tryd.func30, Tryd.ntmps30
  go_wp2_with (simp only [key])
  go_ret
  exact ⟨rfl, rfl⟩

theorem tz16_any (x : Nat) (hx : x < 65536) (hx0 : x ≠ 0) (w : World) (hT : Tab w) :
    Calls Tryd.prog 30 #[.int .u16 x] w fun e w' => e = .returned (.int .i64 (Lib.ctz 16 x : Nat)) ∧ w' = w := by
  obtain ⟨hlow, hk⟩ := Lib.lowest_bit 16 x hx0 hx
  obtain ⟨hi, htab⟩ := Lib.deBruijn32_at (Lib.ctz 16 x) (by omega)
  have hcell := hT _ hi
  rw [htab] at hcell
  have hp : 2 ^ Lib.ctz 16 x < 65536 := (Nat.pow_lt_pow_right (by omega) hk : 2 ^ Lib.ctz 16 x < 2 ^ 16)
  exact tz16_core x (Lib.ctz 16 x) _ (by rw [beq_eq_false_iff_ne]; omega) w (tz16_key x _ hx hx0 hlow hp) hi (by omega) hcell

def cnt8 (n : Nat) : Nat := ((List.range 8).filter fun j => n.testBit j).length
theorem pop8_cnt : ∀ n : Fin 256, Lib.pop8 (n.val : Int) = (cnt8 n.val : Int) := by decide +kernel
theorem cnt8_le (n : Nat) : cnt8 n ≤ 8 := Nat.le_trans (List.length_filter_le _ _) (by simp)
theorem filter_len {α : Type} (p q : α → Bool) (l : List α) (h : ∀ x ∈ l, p x = q x) : (l.filter p).length = (l.filter q).length := by rw [List.filter_congr h]
theorem filter_map_len {α β : Type} (f : α → β) (p : β → Bool) (l : List α) : ((l.map f).filter p).length = (l.filter (fun x => p (f x))).length := by
  rw [List.filter_map, List.length_map]; rfl
theorem cats_len (x y : Nat) (hy : x &&& 255 = y) : (catsL x).length = cnt8 (x / 256) + cnt8 y := by
  unfold catsL cnt8
  rw [show List.range 16 = List.range 8 ++ (List.range 8).map (8 + ·) by decide, List.filter_append, List.length_append, filter_map_len, Nat.add_comm]
  congr 1
  · refine filter_len _ _ _ (fun j hj => ?_)
    rw [Nat.testBit_eq_decide_div_mod_eq, Nat.testBit_eq_decide_div_mod_eq, Nat.pow_add, Nat.div_div_eq_div_mul]
  · refine filter_len _ _ _ (fun j hj => ?_)
    rw [← hy, Nat.testBit_and]
    have : ∀ j, j < 8 → Nat.testBit 255 j = true := by decide
    rw [this j (by simpa using hj), Bool.and_true]

set_option maxHeartbeats 4000000 in
theorem ones16_any (x : Nat) (hx : x < 65536) (w : World) :
    Calls Tryd.prog 31 #[.int .u16 x] w fun e w' => e = .returned (.int .i64 ((catsL x).length : Nat)) ∧ Below w.heap.size w w' := by
  have hx1 : 0 ≤ (x : Int) / 256 := by omega
  have hx2 : (x : Int) / 256 ≤ 255 := by omega
  have hb := bits_and_u16 x 255 hx (by omega)
  have hy : x &&& 255 < 256 := Nat.lt_of_le_of_lt Nat.and_le_right (by omega)
  rw [show ((255 : Nat) : Int) = 255 from rfl] at hb
  generalize hyy : x &&& 255 = y at *
  have hy0 : 0 ≤ (y : Int) := by omega
  have hy' : (y : Int) ≤ 255 := by omega
  replace hyy := Lib.hid hyy
  go_enter Tryd.func31, Tryd.ntmps31
  go_wp2_with fail
  go_region
  go_wp2_with fail
  go_ret
  refine ⟨ret_int ?_, bdrewN (Below.refl _ _) 1⟩
  have e1 := pop8_cnt ⟨x / 256, by omega⟩
  have e2 := pop8_cnt ⟨y, hy⟩
  have l1 := cnt8_le (x / 256)
  have l2 := cnt8_le y
  simp only [Int.natCast_ediv] at e1
  have e3 := cats_len x y hyy.out
  simp only [e3]
  rw [show ((256 : Nat) : Int) = 256 from rfl] at e1
  simp only at e2
  omega

set_option maxHeartbeats 1000000 in
theorem labRank_any (p : Nat × Nat) (hp : okL p) (w : World) :
    Calls Tryd.prog 15 #[labV p] w fun e w' => e = .returned (.int .i64 ((p.1 + (catsL p.2).length : Nat) : Int)) ∧ Below w.heap.size w w' := by
  have h16 : (catsL p.2).length ≤ 16 := Nat.le_trans (List.length_filter_le _ _) (by simp)
  have h1 := hp.1
  have hw : IntKind.i64.wrap ((p.1 : Int) + ((catsL p.2).length : Int)) = (p.1 : Int) + ((catsL p.2).length : Int) := by rw [IntKind.wrap_i64]; omega
  unfold labV
  go_enter Tryd.func15, Tryd.ntmps15
  go_wp2_with fail
  have B1 := labRow_new w 25 p
  have hb1 := bnew w (.cells #[.int .u8 p.1, .int .u16 p.2] 25)
  have B2 := heap_alloc_last w (.cells #[.int .u8 p.1, .int .u16 p.2] 25)
  generalize w.alloc (.cells #[.int .u8 p.1, .int .u16 p.2] 25) = w1 at *
  have q1 := fun d os => rowcell (regrown_keep B2 d os)
  refine wp_region_quiet_below (by kernel_rfl) (by kernel_rfl) ?_
  repeat (go_big_quiet_step (first
    | (go_at_call 31; exact Calls.regrown_of (ones16_any p.2 hp.2 _))))
  refine wpQuiet_nil ?_
  intro w6 hw6
  have hB6 : Below w.heap.size w w6 := bnext hb1 (by obtain ⟨p, rfl⟩ := hw6; exact below_regrown w1 p.d p.os)
  clear hw6 q1
  go_wp2
  go_ret
  exact ⟨ret_int (by simp), hB6⟩
end Go.Proofs.YtcjnnonfnlemmaaDoor
