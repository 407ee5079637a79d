/- Memory of a process: Free, Lab, Pages. -/
import Derived.Test.YtpjfnmmgfmfcfaaSpcK
set_option linter.unusedVariables false
set_option linter.unusedSimpArgs false
namespace Go.Proofs.Ytpjfnmmgfmfcfaa
open Go.RowKit

section
variable {w w' w0 : World} {base gs g gm lab : Nat} {ps : List (Nat × Nat)} {v : Value} {a : Option Addr} {us : Nat → Nat} {F F' : Nat × Nat → Option (Nat → Nat)} {rs : List RegL}
set_option maxRecDepth 100000 in
set_option maxHeartbeats 4000000 in
theorem spaceFree_in (hp : ConfP w0 a rs) (hb : Below w0.heap.size w0 w) (ht : FP w g gm a us F) (hs : SpV w base gs g lab ps v) (ok : SpOk F ps) (hpl : ∀ p ∈ ps, p.1 = lab) (g0 : w0.heap.size ≤ g) (g1 : w0.heap.size ≤ gm) (hbase : w0.heap.size ≤ base)
    (hl : lab < rs.length) (h64 : rs.length ≤ 64) (hfr : rs[lab].fr < 65536) (hus : ps.length ≤ us lab) (huf : us lab ≤ rs[lab].fr) :
    Calls Try.prog 39 #[.pointer (some ⟨gs, 0, none⟩)] w fun e w' => e = .returned (.tuple #[]) ∧ (∃ v', SpV w' base gs g lab [] v') ∧ FP w' g gm a (setN us lab (us lab - ps.length)) (delPs F ps) ∧ Chg (spT g gm gs) w w' := by
  have HG := Lib.hid (spaceGrow_down hp hb ht hs ok hpl g0 g1 hbase hl h64 hfr hus huf)
  obtain ⟨A, c, hv⟩ := own_form hs.ov
  have c2 := hs.c2
  rw [hv] at c2
  have h32 := ok.len
  obtain ⟨n, hn⟩ : ∃ n, n = ps.length := ⟨_, rfl⟩
  rw [← hn] at c2 h32 HG ⊢
  have f2 : IntKind.i64.wrap (-(n : Int)) = -(n : Int) := by rw [IntKind.wrap_i64]; omega
  clear hp hb ht hs ok hpl g0 g1 hbase h64 hn hv hfr hus huf
  go_enter Try.func39, Try.ntmps39
  go_wp2_with fail
  refine HG.out.mono ?_
  rintro e w2 ⟨rfl, h1, h2, h3⟩
  go_wp2_with fail
  go_end0
  exact ⟨rfl, h1, h2, h3⟩
set_option maxHeartbeats 4000000 in
theorem spacePages_in (hs : SpV w base gs g lab ps v) : Calls Try.prog 12 #[.pointer (some ⟨gs, 0, none⟩)] w fun e w' => e = .returned (.int .i64 ps.length) ∧ w = w' := by
  obtain ⟨A, c, hv⟩ := own_form hs.ov
  have c2 := hs.c2
  rw [hv] at c2
  clear hs hv
  obtain ⟨n, hn⟩ : ∃ n, n = ps.length := ⟨_, rfl⟩
  rw [← hn] at c2 ⊢
  clear hn
  go_enter Try.func12, Try.ntmps12
  go_wp2_with fail
  go_ret
  exact ⟨rfl, rfl⟩
end
end Go.Proofs.Ytpjfnmmgfmfcfaa
