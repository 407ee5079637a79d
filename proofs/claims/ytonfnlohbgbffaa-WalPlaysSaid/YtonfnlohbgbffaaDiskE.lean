/- Contracts of package disk: Image, Of, nil receivers; the document's Same. -/
import Derived.Test.YtonfnlohbgbffaaDiskD
import Derived.Test.YtonfnlohbgbffaaBlk
set_option linter.unusedVariables false
set_option linter.unusedSimpArgs false
namespace Go.Proofs.Ytonfnlohbgbffaa
open Go.RowKit

/-- Bytes. -/
def U8s (xs : List Value) : Prop := ∀ v ∈ xs, ∃ z : Int, v = .int .u8 z ∧ 0 ≤ z ∧ z ≤ 255
theorem U8s.one {xs : List Value} (h : U8s xs) : ∀ v ∈ xs, v.oneCell' = true := fun v hv => by obtain ⟨z, rfl, _⟩ := h v hv; rfl
theorem U8s.row {n : Nat} {C : Nat → Value} (h : ∀ k, k < n → ∃ z : Int, C k = .int .u8 z ∧ 0 ≤ z ∧ z ≤ 255) : U8s (rowArr n C).toList := fun v hv => by
  obtain ⟨i, hi⟩ := List.mem_iff_getElem?.1 hv
  obtain ⟨h1, rfl⟩ := rowArr_get _ _ _ _ hi
  exact h i h1
theorem rowArr_len (n : Nat) (C : Nat → Value) : (rowArr n C).toList.length = n := by simp [rowArr]

theorem noughts_size : (Value.agg noughts).cells.size = 64 := rowArr_size _ _

theorem DK.sr {w : World} {g gb n : Nat} {C : Nat → Value} {left : Int} {dead : Bool} {writes reads : Int} (h : DK w g gb n C left dead writes reads) (hn : n ≤ 65536) : SR w (.slice (some ⟨gb, 0, none⟩) n n) n 64 (rowArr (n * 64) C).toList :=
  ⟨rowArr_len _ _, .inr ⟨_, n, rfl, Nat.le_refl _, by simp [maxLen]; omega, fun _ => ⟨rfl, h.blk.lt, fun i hi => by
    show w.cell? ⟨gb, 0 + i, none⟩ = _
    rw [Nat.zero_add, h.blk.cell hi]
    simp [rowArr, hi]⟩⟩⟩

set_option maxHeartbeats 1000000 in
theorem diskImage_ok {w : World} {g gb n : Nat} {C : Nat → Value} {left : Int} {dead : Bool} {writes reads : Int} (h : DK w g gb n C left dead writes reads) (hn : n ≤ 65536) :
    Calls Try.prog 46 #[.pointer (some ⟨g, 0, none⟩)] w fun e w' => (∃ v, e = .returned v ∧ w'.ownsRow w.heap.size 52 64 v n (rowArr (n * 64) C).toList) ∧ Below w.heap.size w w' := by
  have c0 := h.c0
  have hsr := h.sr hn
  have hone := (U8s.row h.one).one
  have hgl := h.row.lt
  have H1 := Lib.hid hsr
  have H2 := Lib.hid hone
  clear hsr hone
  go_enter Try.func46, Try.ntmps46
  go_wp2_with (refine wpList_append_sr rfl (.tmp 5) (.tmp 9) 50 rfl (some 10) rfl w.heap.size 52 (.agg noughts) 64 64 Try.underlying50 block_row noughts_size (by omega) (.slice (some ⟨w.heap.size, 0, none⟩) 0 0) (.slice (some ⟨gb, 0, none⟩) n n) 0 n [] (rowArr (n * 64) C).toList (by go_simp) (World.ownsRow_lit w #[] 0 (Nat.le_refl _) (by simp [maxLen]) rfl) (by go_simp) (SR.alloc (w := w) H1.out _) H2.out (by simp [maxLen]; omega) (by omega) (by simp) ?_; intro v w2 hown hg hat; have HO := Lib.hid hown; have HG := Lib.hid hg; clear hown hg)
  go_ret
  refine ⟨⟨v, rfl, ?_⟩, ?_⟩
  · have := HO.out
    rw [Nat.zero_add, List.nil_append] at this
    exact this
  · exact (bnew w (.cells #[] 52)).grown HG.out (by simp) (fun j hj => by simp [Value.ownBlock] at hj; omega)

set_option maxHeartbeats 1000000 in
theorem diskImage_nil (w : World) : Calls Try.prog 46 #[.pointer none] w fun e w' => e = .returned (.slice none 0 0) ∧ w' = w := by
  go_enter Try.func46, Try.ntmps46
  go_wp2_with fail
  go_ret
  exact ⟨rfl, rfl⟩
theorem diskArm_nil (w : World) (x : Int) : Calls Try.prog 57 #[.pointer none, .int .i64 x] w fun e w' => e = .returned (.tuple #[]) ∧ w' = w := by
  go_enter Try.func57, Try.ntmps57
  go_wp2_with fail
  go_end0
  exact ⟨rfl, rfl⟩
theorem diskWake_nil (w : World) : Calls Try.prog 58 #[.pointer none] w fun e w' => e = .returned (.tuple #[]) ∧ w' = w := by
  go_enter Try.func58, Try.ntmps58
  go_wp2_with fail
  go_end0
  exact ⟨rfl, rfl⟩
theorem diskDead_nil (w : World) : Calls Try.prog 63 #[.pointer none] w fun e w' => e = .returned (.bool false) ∧ w' = w := by
  go_enter Try.func63, Try.ntmps63
  go_wp2_with fail
  go_ret
  exact ⟨rfl, rfl⟩
theorem diskLen_nil (w : World) : Calls Try.prog 72 #[.pointer none] w fun e w' => e = .returned (.int .i64 0) ∧ w' = w := by
  go_enter Try.func72, Try.ntmps72
  go_wp2_with fail
  go_ret
  exact ⟨rfl, rfl⟩
theorem diskCounts_nil (w : World) : Calls Try.prog 78 #[.pointer none] w fun e w' => e = .returned (.tuple #[.int .i64 0, .int .i64 0]) ∧ w' = w := by
  go_enter Try.func78, Try.ntmps78
  go_wp2_with fail
  go_ret2
  exact ⟨rfl, rfl⟩

end Go.Proofs.Ytonfnlohbgbffaa
