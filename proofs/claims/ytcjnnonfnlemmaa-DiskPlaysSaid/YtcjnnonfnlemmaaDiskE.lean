/- Contracts of package disk: Image, Of, nil receivers; the document's Same. -/
import Derived.Test.YtcjnnonfnlemmaaDiskD
import Derived.Test.YtcjnnonfnlemmaaBlk
set_option linter.unusedVariables false
set_option linter.unusedSimpArgs false
namespace Go.Proofs.Ytcjnnonfnlemmaa
open Go.RowKit

/-- Bytes. -/
def U8s (xs : List Value) : Prop := ∀ v ∈ xs, ∃ z : Int, v = .int .u8 z ∧ 0 ≤ z ∧ z ≤ 255
theorem U8s.one {xs : List Value} (h : U8s xs) : ∀ v ∈ xs, v.oneCell' = true := fun v hv => by obtain ⟨z, rfl, _⟩ := h v hv; rfl
theorem U8s.row {n : Nat} {C : Nat → Value} (h : ∀ k, k < n → ∃ z : Int, C k = .int .u8 z ∧ 0 ≤ z ∧ z ≤ 255) : U8s (rowArr n C).toList := fun v hv => by
  obtain ⟨i, hi⟩ := List.mem_iff_getElem?.1 hv
  obtain ⟨h1, rfl⟩ := rowArr_get _ _ _ _ hi
  exact h i h1
theorem rowArr_len (n : Nat) (C : Nat → Value) : (rowArr n C).toList.length = n := by simp [rowArr]

theorem noughts_size : (Value.agg noughts).cells.size = 64 := rowArr_size _ _

theorem DK.sr {w : World} {g gb n : Nat} {C : Nat → Value} {left : Int} {dead : Bool} {writes reads : Int} (h : DK w g gb n C left dead writes reads) (hn : n ≤ 65536) : SR w (.slice (some ⟨gb, 0, none⟩) n n) n 64 (rowArr (n * 64) C).toList :=
  ⟨rowArr_len _ _, .inr ⟨_, n, rfl, Nat.le_refl _, by simp [maxLen]; omega, fun _ => ⟨rfl, h.blk.lt, fun i hi => by
    show w.cell? ⟨gb, 0 + i, none⟩ = _
    rw [Nat.zero_add, h.blk.cell hi]
    simp [rowArr, hi]⟩⟩⟩

set_option maxHeartbeats 1000000 in
theorem diskImage_ok {w : World} {g gb n : Nat} {C : Nat → Value} {left : Int} {dead : Bool} {writes reads : Int} (h : DK w g gb n C left dead writes reads) (hn : n ≤ 65536) :
    Calls Try.prog 18 #[.pointer (some ⟨g, 0, none⟩)] w fun e w' => (∃ v, e = .returned v ∧ w'.ownsRow w.heap.size 32 64 v n (rowArr (n * 64) C).toList) ∧ Below w.heap.size w w' := by
  have c0 := h.c0
  have hsr := h.sr hn
  have hone := (U8s.row h.one).one
  have hgl := h.row.lt
  have H1 := Lib.hid hsr
  have H2 := Lib.hid hone
  clear hsr hone
  go_enter Try.func18, Try.ntmps18
  go_wp2_with (refine wpList_append_sr rfl (.tmp 5) (.tmp 9) 37 rfl (some 10) rfl w.heap.size 32 (.agg noughts) 64 64 Try.underlying37 block_row noughts_size (by omega) (.slice (some ⟨w.heap.size, 0, none⟩) 0 0) (.slice (some ⟨gb, 0, none⟩) n n) 0 n [] (rowArr (n * 64) C).toList (by go_simp) (World.ownsRow_lit w #[] 0 (Nat.le_refl _) (by simp [maxLen]) rfl) (by go_simp) (SR.alloc (w := w) H1.out _) H2.out (by simp [maxLen]; omega) (by omega) (by simp) ?_; intro v w2 hown hg hat; have HO := Lib.hid hown; have HG := Lib.hid hg; clear hown hg)
  go_ret
  refine ⟨⟨v, rfl, ?_⟩, ?_⟩
  · have := HO.out
    rw [Nat.zero_add, List.nil_append] at this
    exact this
  · exact (bnew w (.cells #[] 32)).grown HG.out (by simp) (fun j hj => by simp [Value.ownBlock] at hj; omega)

set_option maxHeartbeats 1000000 in
theorem diskImage_nil (w : World) : Calls Try.prog 18 #[.pointer none] w fun e w' => e = .returned (.slice none 0 0) ∧ w' = w := by
  go_enter Try.func18, Try.ntmps18
  go_wp2_with fail
  go_ret
  exact ⟨rfl, rfl⟩
theorem diskArm_nil (w : World) (x : Int) : Calls Try.prog 10 #[.pointer none, .int .i64 x] w fun e w' => e = .returned (.tuple #[]) ∧ w' = w := by
  go_enter Try.func10, Try.ntmps10
  go_wp2_with fail
  go_end0
  exact ⟨rfl, rfl⟩
theorem diskWake_nil (w : World) : Calls Try.prog 20 #[.pointer none] w fun e w' => e = .returned (.tuple #[]) ∧ w' = w := by
  go_enter Try.func20, Try.ntmps20
  go_wp2_with fail
  go_end0
  exact ⟨rfl, rfl⟩
theorem diskDead_nil (w : World) : Calls Try.prog 14 #[.pointer none] w fun e w' => e = .returned (.bool false) ∧ w' = w := by
  go_enter Try.func14, Try.ntmps14
  go_wp2_with fail
  go_ret
  exact ⟨rfl, rfl⟩
theorem diskLen_nil (w : World) : Calls Try.prog 16 #[.pointer none] w fun e w' => e = .returned (.int .i64 0) ∧ w' = w := by
  go_enter Try.func16, Try.ntmps16
  go_wp2_with fail
  go_ret
  exact ⟨rfl, rfl⟩
theorem diskCounts_nil (w : World) : Calls Try.prog 22 #[.pointer none] w fun e w' => e = .returned (.tuple #[.int .i64 0, .int .i64 0]) ∧ w' = w := by
  go_enter Try.func22, Try.ntmps22
  go_wp2_with fail
  go_ret2
  exact ⟨rfl, rfl⟩

set_option maxHeartbeats 1000000 in
theorem diskOf_ok {w : World} {v : Value} {n : Nat} {xs : List Value} (hr : SR w v n 64 xs) (hu : U8s xs) (hn : n ≤ 65536) :
    Calls Try.prog 15 #[v] w fun e w' => e = .returned (.tuple #[.pointer (some ⟨w.heap.size + 1, 0, none⟩), .int .i64 0]) ∧ DK w' (w.heap.size + 1) w.heap.size n (fun k => xs.getD k undef) (-1) false 0 0 ∧ Below w.heap.size w w' := by
  obtain ⟨ad, cap, rfl, _, _⟩ := hr.form
  have HR := Lib.hid hr
  have HU := Lib.hid hu
  clear hr hu
  go_enter Try.func15, Try.ntmps15
  go_wp2_with (first
    | (go_at_call 9; refine (diskNew_ok n hn _).mono ?_; rintro e w1 ⟨he, hd1, hb1⟩; subst he; have e0 := hd1.c0)
    | (refine wpList_copy_full rfl (.tmp 18) (.tmp 19) 37 37 rfl (some 20) rfl 32 w.heap.size n n 64 (.slice ad n cap) xs 32 _ (by go_simp) (by go_simp) Try.underlying37 block_size hd1.blk (HR.out.keep hb1) HU.out.one ?_; intro wS hwS; have HS := Lib.hid hwS; clear hwS))
  have hl : xs.length = n * 64 := HR.out.1
  have hblk : wS.rowIs w.heap.size 32 (n * 64) (fun k => xs.getD k undef) := by
    rw [HS.out]
    refine (rowIs_setCells xs 0 w1 _ hd1.blk).congr (fun j hj => ?_)
    rw [if_pos (by omega)]
    have hj' : j < xs.length := by omega
    simp [hj']
  have hrow := rowIs_other hd1.ne xs 0 w1 hd1.row
  rw [← HS.out] at hrow
  have hbS : Below w.heap.size w wS := by rw [HS.out]; exact below_setCells (Nat.le_refl _) _ _ _ hb1
  clear HS
  go_ret2
  refine ⟨rfl, ⟨hrow, hblk, hd1.ne, fun k hk => ?_⟩, hbS⟩
  have hk' : k < xs.length := by omega
  have := HU.out xs[k] (List.getElem_mem hk')
  simpa [List.getD_eq_getElem?_getD, hk'] using this
end Go.Proofs.Ytcjnnonfnlemmaa
