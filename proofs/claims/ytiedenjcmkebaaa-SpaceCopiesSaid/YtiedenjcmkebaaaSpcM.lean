/- Memory of a process: more pages than there is room for. -/
import Derived.Test.YtiedenjcmkebaaaSpcL
set_option linter.unusedVariables false
set_option linter.unusedSimpArgs false
namespace Go.Proofs.Ytiedenjcmkebaaa
open Go.RowKit

section
variable {w w' w0 : World} {base gs g gm lab : Nat} {ps : List (Nat × Nat)} {v : Value} {a : Option Addr} {us : Nat → Nat} {F : Nat × Nat → Option (Nat → Nat)} {rs : List RegL}
set_option maxRecDepth 100000 in
set_option maxHeartbeats 8000000 in
theorem spaceGrow_full (hp : ConfP w0 a rs) (hb : Below w0.heap.size w0 w) (ht : FP w g gm a us F) (hs : SpV w base gs g lab ps v) (hc : Cont us F) (g0 : w0.heap.size ≤ g) (g1 : w0.heap.size ≤ gm) (hbase : w0.heap.size ≤ base) (hbw : base ≤ w.heap.size)
    (hl : lab < rs.length) (h64 : rs.length ≤ 64) (m : Nat) (h32 : ps.length + m ≤ 32) (hfr : rs[lab].fr < 65536) (hroom : rs[lab].fr < us lab + m) (husf : us lab < 65536) :
    Calls Try.prog 61 #[.pointer (some ⟨gs, 0, none⟩), .int .i64 m] w fun e w' => e = .returned (.int .i64 10) ∧ Below w.heap.size w w' := by
  obtain ⟨A, c, hv⟩ := own_form hs.ov
  have c0 := hs.c0
  have c1 := hs.c1
  have c2 := hs.c2
  rw [hv] at c2
  obtain ⟨n, hn⟩ : ∃ n, n = ps.length := ⟨_, rfl⟩
  rw [← hn] at c2 h32
  have HN := Lib.hid hn
  have HV := Lib.hid hv
  have HP := Lib.hid hp
  have HB := Lib.hid hb
  have HT := Lib.hid ht
  have HS := Lib.hid hs
  have HC := Lib.hid hc
  have HG := Lib.hid (And.intro g0 g1)
  have HBA := Lib.hid (And.intro hbase hbw)
  obtain ⟨fr, hf⟩ : ∃ fr, fr = rs[lab].fr := ⟨_, rfl⟩
  rw [← hf] at hfr hroom
  have HF := Lib.hid hf
  obtain ⟨u0, hu0⟩ : ∃ u, u = us lab := ⟨_, rfl⟩
  rw [← hu0] at hroom husf
  have HU := Lib.hid hu0
  have HL := Lib.hid hl
  have H64 := Lib.hid h64
  have cR : ∀ d os, Calls Try.prog 34 #[.pointer (some ⟨g, 0, none⟩), .int .i64 lab] (Go.Sort.grow (redrawn w d) os) fun e w'' => e = .returned (.int .i64 ((fr : Int) - u0)) ∧ ∃ p : Regrown, w'' = Go.Sort.grow (redrawn w p.d) p.os := fun d os => by
    have := frameRoom_in HP.out (HB.out.trans ((below_regrown w d os).mono HB.out.size)) (HT.out.keep (below_regrown w d os)) lab hl h64 (by rw [← HU.out]; omega) (by rw [← HF.out]; omega)
    rw [← HF.out, ← HU.out] at this
    exact Calls.regrown_of this
  have CR := Lib.hid cR
  have q0 := fun d os => cell_regrown c0 d os
  have q1 := fun d os => cell_regrown c1 d os
  have f0 : IntKind.i64.wrap (32 - (n : Int)) = 32 - (n : Int) := by rw [IntKind.wrap_i64]; omega
  have f1 : ¬ (32 - (n : Int) < (m : Int)) := by omega
  have f2 : IntKind.i64.wrap (-(n : Int)) = -(n : Int) := by rw [IntKind.wrap_i64]; omega
  have f3 : ¬ ((m : Int) < -(n : Int)) := by omega
  have f4 : (fr : Int) - u0 < (m : Int) := by omega
  have f5 : ¬ ((m : Int) < 0) := by omega
  clear hp hb ht hs hc g0 g1 hbase hbw h64 hn hv cR hf hu0
  go_enter Try.func61, Try.ntmps61
  go_upto_region 7 with fail
  refine wp_region_quiet_below (by kernel_rfl) (by kernel_rfl) ?_
  repeat (go_big_quiet_step (first
    | (go_at_call 34; with_reducible exact CR.out _ _)))
  refine wpQuiet_nil ?_
  intro w7 hw7
  have hb7 : Below w.heap.size w w7 := by obtain ⟨p, rfl⟩ := hw7; exact below_regrown w p.d p.os
  have HB7 := Lib.hid hb7
  have HT7 := Lib.hid (HT.out.keep hb7)
  have HS7 := Lib.hid (HS.out.keep hb7)
  have HC7 := Lib.hid (Chg.of_below (spS g gm gs v) hb7)
  clear hw7 hb7 q0 q1 c0 c1 c2 f0 f1 f2 f3 f4 CR
  go_wp2_with fail
  go_ret
  exact ⟨rfl, HB7.out⟩
set_option maxRecDepth 100000 in
set_option maxHeartbeats 8000000 in
theorem spaceNew_full (hp : ConfP w0 a rs) (hb : Below w0.heap.size w0 w) (ht : FP w g gm a us F) (hc : Cont us F) (g0 : w0.heap.size ≤ g) (g1 : w0.heap.size ≤ gm)
    (hl : lab < rs.length) (h64 : rs.length ≤ 64) (m : Nat) (h32 : m ≤ 32) (hfr : rs[lab].fr < 65536) (hroom : rs[lab].fr < us lab + m) (husf : us lab < 65536) :
    Calls Try.prog 21 #[.pointer (some ⟨g, 0, none⟩), .int .i64 lab, .int .i64 m] w fun e w' => e = .returned (.tuple #[.pointer none, .int .i64 10]) ∧ Below w.heap.size w w' := by
  have hbn := bnew w (.cells #[.pointer (some ⟨g, 0, none⟩), .int .i64 lab, .slice none 0 0] 146)
  have hsp : SpV (w.alloc (.cells #[.pointer (some ⟨g, 0, none⟩), .int .i64 lab, .slice none 0 0] 146)) w.heap.size w.heap.size g lab [] (.slice none 0 0) := ⟨rowIs_of_arr (heap_alloc_last w _), ⟨rfl, .inl ⟨rfl, rfl⟩⟩, Nat.le_refl _⟩
  have HG := Lib.hid (spaceGrow_full hp (hb.trans (hbn.mono hb.size)) (ht.keep hbn) hsp hc g0 g1 hb.size hbn.size hl h64 m (by simpa using h32) hfr hroom husf)
  have HN := Lib.hid hbn
  clear hp hb ht hc hbn hsp
  go_enter Try.func21, Try.ntmps21
  go_wp2_with fail
  refine HG.out.mono ?_
  rintro e w3 ⟨rfl, hb3⟩
  have HB3 := Lib.hid (bnext HN.out hb3)
  clear hb3
  go_wp2_with fail
  go_ret2
  exact ⟨rfl, HB3.out⟩
end
end Go.Proofs.Ytiedenjcmkebaaa
