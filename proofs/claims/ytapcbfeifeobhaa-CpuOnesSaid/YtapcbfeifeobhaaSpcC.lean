/- Memory of a process: New; a pool for a size. -/
import Derived.Test.YtapcbfeifeobhaaSpcB
set_option linter.unusedVariables false
set_option linter.unusedSimpArgs false
namespace Go.Proofs.Ytapcbfeifeobhaa
open Go.RowKit

section
variable {w w' w0 : World} {base gs g gm lab : Nat} {ps : List (Nat × Nat)} {v : Value} {a : Option Addr} {us : Nat → Nat} {F : Nat × Nat → Option (Nat → Nat)} {rs : List RegL}
set_option maxRecDepth 100000 in
set_option maxHeartbeats 8000000 in
theorem spaceNew_up (hp : ConfP w0 a rs) (hb : Below w0.heap.size w0 w) (ht : FP w g gm a us F) (hc : Cont us F) (g0 : w0.heap.size ≤ g) (g1 : w0.heap.size ≤ gm)
    (hl : lab < rs.length) (h64 : rs.length ≤ 64) (m : Nat) (h32 : m ≤ 32) (hfr : rs[lab].fr < 65536) (hroom : us lab + m ≤ rs[lab].fr) :
    Calls Try.prog 18 #[.pointer (some ⟨g, 0, none⟩), .int .i64 lab, .int .i64 m] w fun e w' => ∃ gs v, e = .returned (.tuple #[.pointer (some ⟨gs, 0, none⟩), .int .i64 0]) ∧ w.heap.size ≤ gs ∧ FP w' g gm a (setN us lab (us lab + m)) (moreF F lab (us lab) m) ∧
      SpV w' w.heap.size gs g lab (morePs lab (us lab) m) v ∧ Chg (fun k => k = g ∨ k = gm) w w' := by
  have hbn := bnew w (.cells #[.pointer (some ⟨g, 0, none⟩), .int .i64 lab, .slice none 0 0] 86)
  have hsp : SpV (w.alloc (.cells #[.pointer (some ⟨g, 0, none⟩), .int .i64 lab, .slice none 0 0] 86)) w.heap.size w.heap.size g lab [] (.slice none 0 0) := ⟨rowIs_of_arr (heap_alloc_last w _), ⟨rfl, .inl ⟨rfl, rfl⟩⟩, Nat.le_refl _⟩
  have HG := Lib.hid (spaceGrow_up hp (hb.trans (hbn.mono hb.size)) (ht.keep hbn) hsp hc g0 g1 hb.size hbn.size hl h64 m (by simpa using h32) hfr hroom)
  have HN := Lib.hid hbn
  have HT := Lib.hid ht
  clear hp hb ht hc hbn hsp
  go_enter Try.func18, Try.ntmps18
  go_wp2_with fail
  refine HG.out.mono ?_
  rintro e w3 ⟨rfl, v3, hT3, hS3, hlo, hc3⟩
  have HT3 := Lib.hid hT3
  have HS3 := Lib.hid hS3
  have HC3 := Lib.hid ((Chg.of_below (fun k => k = g ∨ k = gm) HN.out).trans hc3 (fun k hk h => by
    rcases h with h | h | h | h
    · exact .inl h
    · exact .inr h
    · omega
    · cases h))
  clear hT3 hS3 hlo hc3
  go_wp2_with fail
  go_ret2
  exact ⟨_, v3, rfl, Nat.le_refl _, HT3.out, by have := HS3.out; simpa using this, HC3.out⟩
end
end Go.Proofs.Ytapcbfeifeobhaa
