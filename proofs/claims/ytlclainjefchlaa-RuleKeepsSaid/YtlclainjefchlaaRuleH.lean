/- The law RuleKeeps: its walk. -/
import Derived.Test.YtlclainjefchlaaRuleG
set_option linter.unusedVariables false
set_option linter.unusedSimpArgs false
namespace Go.Proofs.Ytlclainjefchlaa
open Go.RowKit

set_option maxHeartbeats 4000000 in
theorem sameInts_any (v u : Value) (xs : List Int) (w : World) (hv : SI w .i64 v xs) (hu : SI w .i64 u xs) (hn : xs.length ≤ 1000) :
    Calls Try.prog 25 #[v, u] w fun e w' => e = .returned (.bool true) ∧ Below w.heap.size w w' := by
  obtain ⟨A, cap, rfl, hlc, hcm⟩ := hv.sr.form
  obtain ⟨A', cap', rfl, hlc', hcm'⟩ := hu.sr.form
  have HV := Lib.hid hv
  have HU := Lib.hid hu
  clear hv hu
  go_enter Try.func25, Try.ntmps25
  go_wp2_with fail
  go_loopw [5] (fun v wr => ∃ k : Nat, k ≤ xs.length ∧ v = .int .i64 k ∧ Below w.heap.size w wr) (fun v _ => (xs.length - intOf v).toNat)
  case atStart => exact ⟨0, by omega, rfl, Below.refl _ _⟩
  case round =>
    obtain ⟨k, hk, rfl, hB⟩ := hrel
    by_cases hlt : k < xs.length
    · rcases (HV.out.keep hB).cases with ⟨h, _⟩ | ⟨_, g, off, c1, hs, _, _, hg, hc⟩
      · rw [h] at hlt; simp at hlt
      rcases (HU.out.keep hB).cases with ⟨h, _⟩ | ⟨_, g', off', c1', hs', _, _, hg', hc'⟩
      · rw [h] at hlt; simp at hlt
      cases hs
      cases hs'
      have d0 := hc k hlt
      have d1 := hc' k hlt
      generalize xs.getD k 0 = x at *
      clear hc hc'
      go_wp2_with fail
      go_region
      go_wp2_with fail
      go_roundw
      case rel => exact ⟨k + 1, by omega, by go_num, bdrewN hB 1⟩
      case measure => simp [intOf]; omega
    · go_wp2_with fail
      go_ret
      exact ⟨rfl, hB⟩

theorem SI.ofNatVs {w : World} {base : Nat} {v : Value} {l : List Nat} (h : w.ownsRow base 3 1 v l.length (natVs l)) (hl : ∀ c ∈ l, c < 1000) : SI w .i64 v (l.map fun (j : Nat) => (j : Int)) := by
  refine ⟨?_, fun z hz => ?_⟩
  · rw [List.map_map, List.length_map]
    exact SR.of_own h
  · obtain ⟨c, hc, rfl⟩ := List.mem_map.1 hz
    have := hl c hc
    exact i64_wf (by omega)

theorem CB.one {B : Nat} {w w' : World} {g gT gN gL : Nat} {v m u : Value} {rs : List RegL} {ms : List (Nat × Nat)} (h : CB B w g gT gN gL v m u rs ms) {x : Nat} (hx : x < B) (o : One w w' (some x)) : CB B w' g gT gN gL v m u rs ms := by
  have h0 := h.b0
  have h1 := h.cr.b1
  have h2 := h.cr.b2
  have h3 := h.cr.b3
  refine ⟨o.blk h.blk (fun e => by have := Option.some.inj e; omega), h.b0, h.cr.one o ⟨by omega, by omega, by omega, fun e => ?_, fun e => ?_, fun e => ?_⟩⟩
  · have := (own_blk h.cr.ov e).1; omega
  · have := (own_blk h.cr.om e).1; omega
  · have := (own_blk h.cr.ou e).1; omega

set_option maxRecDepth 20000 in
set_option maxHeartbeats 4000000 in
theorem sizeConf_cb (w : World) (v : Value) (s : SizeL) (hv : SizeV w v s) :
    Calls Try.prog 17 #[v] w fun e w' => Below w.heap.size w w' ∧ ∃ B g gT gN gL v' m' u', e = .returned (.pointer (some ⟨g, 0, none⟩)) ∧ w.heap.size < B ∧ CB B w' g gT gN gL v' m' u' (sizeRegs s) (sizeMarks s) := by
  obtain ⟨X, tv, rfl, hX, hrest⟩ := hv
  have HV := Lib.hid (show SizeV w (.agg X) s from ⟨X, tv, rfl, hX, hrest⟩)
  clear hrest
  have HP := Lib.hid (cellsPiece (heap_alloc_last w (.cells X 26)))
  have HS := Lib.hid (sizeCells hX)
  go_enter Try.func17, Try.ntmps17
  go_wp2_with (refine wpList_load_pieceTo rfl 26 (.tmp 1) rfl (some 6) rfl w.heap.size 0 rfl X _ HP.out Try.underlying26 rfl HS.out ?_)
  refine (sizeRegs_in _ _ s (SizeV.keep HV.out (bnew _ _))).mono ?_; rintro e w1 ⟨hb1, rv, mv, rfl, hr, hm⟩
  have hB1 := bnext (bnew w (.cells X 26)) hb1
  have hlt : w.heap.size < w1.heap.size := by have := hb1.size; simp at this; omega
  have hr1 := SR.of_own hr
  have hm1 := SR.of_own hm
  go_wp2_with fail
  refine (confNew_in _ rv mv (sizeRegs s) (sizeMarks s) hr1 hm1 (size_ok s)).mono ?_; rintro e w2 ⟨hb2, g, gT, gN, gL, v', m', u', rfl, hcb⟩
  have HB := Lib.hid (bnext hB1 hb2)
  have HC := Lib.hid hcb
  clear hcb hr hm hr1 hm1
  go_wp2_with fail
  go_ret
  exact ⟨HB.out, w1.heap.size, g, gT, gN, gL, v', m', u', rfl, hlt, HC.out⟩

theorem notBoth {x y : Bool} (h : ¬ (x = true ∧ y = true)) : (x && y) = false ∧ (x = false ∨ y = false) := by cases x <;> cases y <;> simp_all
theorem seesTo_lt {rs : List RegL} {l : Int} {k c : Nat} (h : c ∈ seesTo rs l k) : c < k := List.mem_range.1 (List.mem_filter.1 h).1
/-- What the law has, once its numbers stand. -/
structure Scene (W w : World) (g2 g5 g : Nat) (a b : Int) (A : Option Addr) (cap : Nat) (rs : List RegL) : Prop where
  below : Below W.heap.size W w
  ca : w.heap[W.heap.size + 1]? = some (.cells #[.int .i64 a] 3)
  cb : w.heap[W.heap.size + 2]? = some (.cells #[.int .i64 b] 3)
  cg : w.heap[g2]? = some (.cells #[.slice A rs.length cap] 32)
  cm : w.heap[g5]? = some (.cells #[.pointer (some ⟨g, 0, none⟩)] 38)
  sr : SR w (.slice A rs.length cap) rs.length 9 (regCells rs)
  cp : ConfP w (some ⟨g, 0, none⟩) rs
theorem Scene.keep {W w w' : World} {g2 g5 g : Nat} {a b : Int} {A : Option Addr} {cap : Nat} {rs : List RegL} (h : Scene W w g2 g5 g a b A cap rs) (hb : Below w.heap.size w w') : Scene W w' g2 g5 g a b A cap rs :=
  ⟨bnext h.below hb, bkeep hb h.ca, bkeep hb h.cb, bkeep hb h.cg, bkeep hb h.cm, h.sr.keep hb, h.cp.keep hb⟩

set_option maxRecDepth 20000 in
set_option maxHeartbeats 4000000 in
theorem keepFn_in {W w : World} {g2 g5 g : Nat} {a b : Int} {A : Option Addr} {cap : Nat} {rs : List RegL} (h : Scene W w g2 g5 g a b A cap rs) (ok : ∀ r ∈ rs, okL r.lab) (anti : antiI rs) (x : Int) :
    Calls Try.prog 22 #[.int .i64 x, .pointer (some ⟨g2, 0, none⟩), .pointer (some ⟨W.heap.size + 1, 0, none⟩), .pointer (some ⟨W.heap.size + 1 + 1, 0, none⟩)] w fun e w' => e = .returned (.bool (judgeI rs a 0 b false x == 0)) ∧ Below w.heap.size w w' := by
  have c1 := rowcell h.ca
  have c2 := rowcell h.cb
  have c3 := rowcell h.cg
  have HR := Lib.hid h.sr
  clear h
  go_enter Try.func22, Try.ntmps22
  go_wp2_with fail
  refine (refJudge_in _ _ rs HR.out ok anti a 0 b false x).mono ?_; rintro e w1 ⟨rfl, hb1⟩
  obtain ⟨j, hj⟩ : ∃ j, j = judgeI rs a 0 b false x := ⟨_, rfl⟩
  rw [← hj]
  have HJ := Lib.hid hj
  clear hj c1 c2 c3
  have HB := Lib.hid hb1
  clear hb1
  go_wp2_with fail
  go_ret
  exact ⟨ret_bool (by rw [HJ.out]), HB.out⟩

end Go.Proofs.Ytlclainjefchlaa
