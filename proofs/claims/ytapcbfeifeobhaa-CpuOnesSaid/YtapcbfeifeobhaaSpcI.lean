/- Memory of a process: one byte loaded; the chapter's example. -/
import Derived.Test.YtapcbfeifeobhaaSpcH
set_option linter.unusedVariables false
set_option linter.unusedSimpArgs false
namespace Go.Proofs.Ytapcbfeifeobhaa
open Go.RowKit

theorem or_zero : ∀ y : Nat, y < 256 → bits .or .u32 0 (y : Int) = y := by decide +kernel
section
variable {w w' w0 : World} {base gs g gm lab : Nat} {ps : List (Nat × Nat)} {v : Value} {a : Option Addr} {us : Nat → Nat} {F F' : Nat × Nat → Option (Nat → Nat)} {rs : List RegL}
set_option maxRecDepth 100000 in
set_option maxHeartbeats 4000000 in
theorem spaceLoad_one (ht : FP w g gm a us F) (hs : SpV w base gs g lab ps v) (ok : SpOk F ps) (at_ : Nat) (ha : at_ ≤ 4294967295) (hi : at_ + 1 ≤ 64 * ps.length) (h255 : spMem F ps at_ < 256) :
    Calls Try.prog 37 #[.pointer (some ⟨gs, 0, none⟩), .int .u32 at_, .int .i64 1] w fun e w' => e = .returned (.tuple #[.int .u32 (spMem F ps at_), .int .i64 0]) ∧ Below w.heap.size w w' := by
  have h := spaceInside_in hs ok.len at_ ha (1 : Nat) (by omega) (by omega)
  rw [insideB_nat, decide_eq_true hi] at h
  have H := Lib.hid h
  have ha2 : at_ ≤ 2048 := by have := ok.len; omega
  have f2 : IntKind.i64.wrap (at_ : Int) = at_ := by rw [IntKind.wrap_i64]; omega
  have f3 : IntKind.i64.wrap ((at_ : Int) + 0) = at_ := by rw [IntKind.wrap_i64]; omega
  have HBY := Lib.hid (spaceByte_in ht hs ok at_ (by omega))
  obtain ⟨y, hy⟩ : ∃ y, y = spMem F ps at_ := ⟨_, rfl⟩
  rw [← hy] at HBY h255 ⊢
  have fo := or_zero y h255
  clear h hs ht ok hi hy
  go_enter Try.func37, Try.ntmps37
  go_wp2_with fail
  refine H.out.mono ?_; rintro e w2 ⟨rfl, rfl⟩
  go_wp2_with fail
  go_loopw [8, 17] (fun s r wx => (s = .int .u32 0 ∧ r = .int .i64 0 ∧ wx = w) ∨ (s = .int .u32 y ∧ r = .int .i64 1 ∧ Below w.heap.size w wx)) (fun _ r _ => 1 - (intOf r).toNat)
  case atStart => exact .inl ⟨rfl, rfl, rfl⟩
  case round =>
    rcases hrel with ⟨rfl, rfl, rfl⟩ | ⟨rfl, rfl, hb⟩
    · go_wp2_with fail
      refine HBY.out.mono ?_; rintro e w3 ⟨rfl, hb3⟩
      go_wp2_with fail
      go_roundw
      case rel => exact .inr ⟨by first | rfl | (simp; omega) | simpa using fo, rfl, hb3⟩
      case measure => simp [intOf]
    · go_wp2_with fail
      go_ret2
      exact ⟨rfl, hb⟩
end
end Go.Proofs.Ytapcbfeifeobhaa
