/- Pages: Set, Copy, Used, Room. -/
import Derived.Test.YtpjfnmmgfmfcfaaFrmC
set_option linter.unusedVariables false
set_option linter.unusedSimpArgs false
namespace Go.Proofs.Ytpjfnmmgfmfcfaa
open Go.RowKit
open Go.Maps (Keyed)

/-- One byte of a page is another one. -/
def setB (f : Nat → Nat) (n c : Nat) : Nat → Nat := fun j => if j = n then c else f j
theorem page_row {w : World} {x : Nat} {f : Nat → Nat} (h : w.heap[x]? = some (.cells (pageA f) 158 (0, 0))) : w.rowIs x 158 64 (fun i => .int .u8 (f i)) := rowIs_of_arr h
theorem page_set {w : World} {x : Nat} {f : Nat → Nat} (h : w.heap[x]? = some (.cells (pageA f) 158 (0, 0))) (n c : Nat) :
    (w.setCell ⟨x, n, none⟩ (.int .u8 c)).heap[x]? = some (.cells (pageA (setB f n c)) 158 (0, 0)) :=
  rowIs_arr (((page_row h).set n (.int .u8 c)).congr (fun j hj => by unfold setB; split <;> rfl))

section
variable {w0 w : World} {g gm : Nat} {a : Option Addr} {us : Nat → Nat} {F : Nat × Nat → Option (Nat → Nat)} {rs : List RegL}
set_option maxHeartbeats 4000000 in
theorem frameUsed_nil (w : World) (i : Int) : Calls Try.prog 13 #[.pointer none, .int .i64 i] w fun e w' => e = .returned (.int .i64 0) ∧ w = w' := by
  go_enter Try.func13, Try.ntmps13
  go_wp2_with fail
  go_ret
  exact ⟨rfl, rfl⟩
set_option maxHeartbeats 4000000 in
theorem frameUsed_no (g : Nat) (w : World) (i : Int) (hi : i < 0 ∨ 64 ≤ i) : Calls Try.prog 13 #[.pointer (some ⟨g, 0, none⟩), .int .i64 i] w fun e w' => e = .returned (.int .i64 0) ∧ w = w' := by
  by_cases h0 : i < 0
  · clear hi
    go_enter Try.func13, Try.ntmps13
    go_wp2_with fail
    go_ret
    exact ⟨rfl, rfl⟩
  · have h64 : 64 ≤ i := by omega
    clear hi
    go_enter Try.func13, Try.ntmps13
    go_wp2_with fail
    go_ret
    exact ⟨rfl, rfl⟩
set_option maxHeartbeats 4000000 in
theorem frameUsed_in (h : FP w g gm a us F) (k : Nat) (hk : k < 64) : Calls Try.prog 13 #[.pointer (some ⟨g, 0, none⟩), .int .i64 k] w fun e w' => e = .returned (.int .i64 (us k)) ∧ w = w' := by
  have c1 := h.cu hk
  have c5 : ¬ ((k : Int) < 0) := by omega
  have c6 : ¬ (64 ≤ (k : Int)) := by omega
  clear h
  go_enter Try.func13, Try.ntmps13
  go_wp2_with fail
  go_ret
  exact ⟨rfl, rfl⟩
set_option maxHeartbeats 4000000 in
theorem frameRoom_nil (w : World) (i : Int) : Calls Try.prog 54 #[.pointer none, .int .i64 i] w fun e w' => e = .returned (.int .i64 0) ∧ w = w' := by
  go_enter Try.func54, Try.ntmps54
  go_wp2_with fail
  go_ret
  exact ⟨rfl, rfl⟩
set_option maxHeartbeats 4000000 in
theorem frameRoom_no (hp : ConfP w0 a rs) (hb : Below w0.heap.size w0 w) (h : FP w g gm a us F) (i : Int) (hi : inB i rs.length = false) :
    Calls Try.prog 54 #[.pointer (some ⟨g, 0, none⟩), .int .i64 i] w fun e w' => e = .returned (.int .i64 0) ∧ Below w.heap.size w w' := by
  have c0 := h.c0
  have HP := Lib.hid (hp.keep hb)
  clear h hp hb
  go_enter Try.func54, Try.ntmps54
  go_wp2_with fail
  refine (HP.out.reg _ (Below.refl _ _) i).mono ?_
  rintro e w2 ⟨r, rfl, _, hb2⟩
  rw [hi]
  have HB2 := Lib.hid hb2
  clear hb2 c0
  unfold regV regArr
  go_wp2_with fail
  go_ret
  exact ⟨rfl, bnewAfter HB2.out _⟩
set_option maxHeartbeats 4000000 in
theorem frameRoom_in (hp : ConfP w0 a rs) (hb : Below w0.heap.size w0 w) (h : FP w g gm a us F) (k : Nat) (hk : k < rs.length) (h64 : rs.length ≤ 64) (hu : us k < 65536) (hf : rs[k].fr < 65536) :
    Calls Try.prog 54 #[.pointer (some ⟨g, 0, none⟩), .int .i64 k] w fun e w' => e = .returned (.int .i64 ((rs[k].fr : Int) - us k)) ∧ Below w.heap.size w w' := by
  have c0 := h.c0
  have HT := Lib.hid h
  have HP := Lib.hid (hp.keep hb)
  obtain ⟨fr, hfr⟩ : ∃ fr, fr = rs[k].fr := ⟨_, rfl⟩
  rw [← hfr] at hf ⊢
  have HFR := Lib.hid hfr
  clear h hp hb hfr
  go_enter Try.func54, Try.ntmps54
  go_wp2_with fail
  refine (HP.out.reg _ (Below.refl _ _) k).mono ?_
  rintro e w2 ⟨r, rfl, hr, hb2⟩
  rw [inB_nat hk]
  have hr' := hr k hk rfl
  rw [HFR.out, ← hr'] at hf
  have HE := Lib.hid (show r.fr = fr by rw [hr', HFR.out])
  clear hr hr'
  have HB2 := Lib.hid hb2
  have HT2 := Lib.hid (HT.out.keep hb2)
  have hb3 := bnew w2 (.cells #[.string r.name, .int .u8 r.lab.1, .int .u16 r.lab.2, .int .i64 r.bl, .int .i64 r.no, .int .i64 r.fr, .int .i64 r.pr, .int .i64 r.op, .int .i64 r.cl] 108)
  have hreg := rowcell (heap_alloc_last w2 (.cells #[.string r.name, .int .u8 r.lab.1, .int .u16 r.lab.2, .int .i64 r.bl, .int .i64 r.no, .int .i64 r.fr, .int .i64 r.pr, .int .i64 r.op, .int .i64 r.cl] 108))
  have HT3 := Lib.hid (HT2.out.keep hb3)
  have HB3 := Lib.hid (bnext HB2.out hb3)
  clear hb2 c0 hb3
  have c3 := HT3.out.cu (l := k) (by omega)
  have c4 : (k : Int) < 64 := by omega
  have c5 : IntKind.i64.wrap ((r.fr : Int) - us k) = (r.fr : Int) - us k := by simp [IntKind.wrap, IntKind.bits, IntKind.signed]; omega
  unfold regV regArr
  go_wp2_with fail
  go_quiet (fail)
  go_wp2_with fail
  go_ret
  exact ⟨ret_int (by rw [HE.out]), bdrewN HB3.out _⟩
end
end Go.Proofs.Ytpjfnmmgfmfcfaa
