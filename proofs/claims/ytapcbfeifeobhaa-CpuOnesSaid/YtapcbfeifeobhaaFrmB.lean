/- Pages: Take. -/
import Derived.Test.YtapcbfeifeobhaaFrmA
set_option linter.unusedVariables false
set_option linter.unusedSimpArgs false
namespace Go.Proofs.Ytapcbfeifeobhaa
open Go.RowKit
open Go.Maps (Keyed)

theorem frameLoad (w : World) (x : Nat) (a b : Int) (h : w.heap[x]? = some (.cells #[.int .u8 a, .int .u16 b] 110 (0, 0))) : (loadVar 110 ⟨x, 0, none⟩).run Try.prog w = .ok (.agg #[.int .u8 a, .int .u16 b]) w :=
  run_loadVar_piece w 110 x 0 #[.int .u8 a, .int .u16 b] _ (fun j v hv => by rw [Nat.zero_add, rowcell h]; simpa using hv) Try.underlying110 rfl (by kernel_rfl)
theorem set_two {w : World} {G : Nat} {x0 x1 : Value} {t : TypeId} (h : w.heap[G]? = some (.cells #[x0, x1] t (0, 0))) (y0 y1 : Value) :
    ((w.setCell ⟨G, 0, none⟩ y0).setCell ⟨G, 1, none⟩ y1).heap[G]? = some (.cells #[y0, y1] t (0, 0)) ∧ One w ((w.setCell ⟨G, 0, none⟩ y0).setCell ⟨G, 1, none⟩ y1) (some G) := by
  have h1 := heap_setCell_same h y0 (off := 0) (by simp)
  have h2 := heap_setCell_same h1 y1 (off := 1) (by simp)
  exact ⟨by simpa using h2, (one_setCell w G 0 y0).trans (one_setCell _ G 1 y1)⟩

section
variable {w0 w : World} {g gm : Nat} {a : Option Addr} {us : Nat → Nat} {F : Nat × Nat → Option (Nat → Nat)} {rs : List RegL}
set_option maxRecDepth 20000 in
set_option maxHeartbeats 4000000 in
theorem frameTake_nil (w : World) (i : Int) : Calls Try.prog 52 #[.pointer none, .int .i64 i] w fun e w' => e = .returned (.tuple #[markV (0, 0), .int .i64 1]) ∧ Below w.heap.size w w' := by
  go_enter Try.func52, Try.ntmps52
  go_wp2_with fail
  have hrun := frameLoad _ w.heap.size 0 0 (heap_alloc_last w _)
  exact bodyPost_ret (v := .tuple #[markV (0, 0), .int .i64 1]) (by simp [results, Try.results52, Act.put, asAddr, hrun, markV]) rfl ⟨rfl, bnew _ _⟩

set_option maxRecDepth 20000 in
set_option maxHeartbeats 4000000 in
theorem frameTake_no (hp : ConfP w0 a rs) (hb : Below w0.heap.size w0 w) (h : FP w g gm a us F) (i : Int) (hi : inB i rs.length = false) :
    Calls Try.prog 52 #[.pointer (some ⟨g, 0, none⟩), .int .i64 i] w fun e w' => e = .returned (.tuple #[markV (0, 0), .int .i64 27]) ∧ Below w.heap.size w w' := by
  have hbn := bnew w (.cells #[.int .u8 0, .int .u16 0] 110)
  have hl := heap_alloc_last w (.cells #[.int .u8 0, .int .u16 0] 110)
  have c0 := (h.keep hbn).c0
  have HB := Lib.hid hbn
  have HL := Lib.hid hl
  have HP := Lib.hid (hp.keep (bnext hb hbn))
  clear h hbn hl hp hb
  go_enter Try.func52, Try.ntmps52
  go_wp2_with fail
  generalize hG : w.heap.size = G at *
  generalize w.alloc (.cells #[.int .u8 0, .int .u16 0] 110) = w1 at *
  have HG := Lib.hid hG
  clear hG
  refine (HP.out.reg _ (Below.refl _ _) i).mono ?_
  rintro e w2 ⟨r, rfl, _, hb2⟩
  rw [hi]
  have HB2 := Lib.hid hb2
  have HL2 := Lib.hid (bkeep hb2 HL.out)
  clear hb2 c0
  unfold regV regArr
  have hb3 := bnew w2 (.cells #[.string r.name, .int .u8 r.lab.1, .int .u16 r.lab.2, .int .i64 r.bl, .int .i64 r.no, .int .i64 r.fr, .int .i64 r.pr, .int .i64 r.op, .int .i64 r.cl] 138)
  have hl3 := bkeep hb3 HL2.out
  have HB3 := Lib.hid hb3
  have HL3 := Lib.hid hl3
  have c1 := rowcell hl3
  have c2 := rowfree hl3
  clear hl3 hb3
  go_wp2_with fail
  generalize w2.alloc (.cells #[.string r.name, .int .u8 r.lab.1, .int .u16 r.lab.2, .int .i64 r.bl, .int .i64 r.no, .int .i64 r.fr, .int .i64 r.pr, .int .i64 r.op, .int .i64 r.cl] 138) = w3 at *
  obtain ⟨h4, o4⟩ := set_two HL3.out (.int .u8 0) (.int .u16 0)
  generalize (w3.setCell ⟨G, 0, none⟩ (.int .u8 0)).setCell ⟨G, 1, none⟩ (.int .u16 0) = w4 at *
  have hrun := frameLoad w4 G 0 0 h4
  have hB : Below w.heap.size w w4 := by
    rw [HG.out]
    exact bone (HB.out.trans ((bnext HB2.out HB3.out).mono (by have := HB.out.size; rw [HG.out] at this; exact this))) o4 (Nat.le_refl _) (by have := HB.out.size; have := HB2.out.size; have := HB3.out.size; rw [HG.out] at *; omega)
  exact bodyPost_ret (v := .tuple #[markV (0, 0), .int .i64 27]) (by simp [results, Try.results52, Act.put, asAddr, hrun, markV]) rfl ⟨rfl, hB⟩

set_option maxRecDepth 20000 in
set_option maxHeartbeats 4000000 in
theorem frameTake_full (hp : ConfP w0 a rs) (hb : Below w0.heap.size w0 w) (h : FP w g gm a us F) (k : Nat) (hk : k < rs.length) (h64 : rs.length ≤ 64) (hfull : rs[k].fr ≤ us k) :
    Calls Try.prog 52 #[.pointer (some ⟨g, 0, none⟩), .int .i64 k] w fun e w' => e = .returned (.tuple #[markV (0, 0), .int .i64 10]) ∧ Below w.heap.size w w' := by
  have hbn := bnew w (.cells #[.int .u8 0, .int .u16 0] 110)
  have hl := heap_alloc_last w (.cells #[.int .u8 0, .int .u16 0] 110)
  have HT := Lib.hid (h.keep hbn)
  have c0 := HT.out.c0
  have HB := Lib.hid hbn
  have HL := Lib.hid hl
  have HP := Lib.hid (hp.keep (bnext hb hbn))
  clear h hbn hl hp hb
  go_enter Try.func52, Try.ntmps52
  go_wp2_with fail
  generalize hG : w.heap.size = G at *
  generalize w.alloc (.cells #[.int .u8 0, .int .u16 0] 110) = w1 at *
  have HG := Lib.hid hG
  clear hG
  refine (HP.out.reg _ (Below.refl _ _) k).mono ?_
  rintro e w2 ⟨r, rfl, hr, hb2⟩
  rw [inB_nat hk]
  have hr' := hr k hk rfl
  have hfr : r.fr ≤ us k := by rw [hr']; exact hfull
  have hfr' : decide (r.fr ≤ us k) = true := by simp; omega
  clear hr hr' hfull hfr
  have HB2 := Lib.hid hb2
  have HL2 := Lib.hid (bkeep hb2 HL.out)
  have HT2 := Lib.hid (HT.out.keep hb2)
  clear hb2 c0
  unfold regV regArr
  have hb3 := bnew w2 (.cells #[.string r.name, .int .u8 r.lab.1, .int .u16 r.lab.2, .int .i64 r.bl, .int .i64 r.no, .int .i64 r.fr, .int .i64 r.pr, .int .i64 r.op, .int .i64 r.cl] 138)
  have hl3 := bkeep hb3 HL2.out
  have hreg := rowcell (heap_alloc_last w2 (.cells #[.string r.name, .int .u8 r.lab.1, .int .u16 r.lab.2, .int .i64 r.bl, .int .i64 r.no, .int .i64 r.fr, .int .i64 r.pr, .int .i64 r.op, .int .i64 r.cl] 138))
  have HT3 := Lib.hid (HT2.out.keep hb3)
  have HB3 := Lib.hid hb3
  have HL3 := Lib.hid hl3
  have c1 := rowcell hl3
  have c2 := rowfree hl3
  have c3 := HT3.out.cu (l := k) (by omega)
  have c4 : (k : Int) < 64 := by omega
  clear hl3 hb3
  go_wp2_with fail
  go_quiet (fail)
  go_wp2_with fail
  generalize w2.alloc (.cells #[.string r.name, .int .u8 r.lab.1, .int .u16 r.lab.2, .int .i64 r.bl, .int .i64 r.no, .int .i64 r.fr, .int .i64 r.pr, .int .i64 r.op, .int .i64 r.cl] 138) = w3 at *
  obtain ⟨h4, o4⟩ := set_two (w := w3.drewN nq) HL3.out (.int .u8 0) (.int .u16 0)
  have hb4 := bdrewN HB3.out nq
  generalize hw4 : ((w3.drewN nq).setCell ⟨G, 0, none⟩ (.int .u8 0)).setCell ⟨G, 1, none⟩ (.int .u16 0) = w4 at *
  have hrun := frameLoad w4 G 0 0 h4
  have hB : Below w.heap.size w w4 := by
    rw [HG.out]
    exact bone (HB.out.trans ((bnext HB2.out hb4).mono (by have := HB.out.size; rw [HG.out] at this; exact this))) o4 (Nat.le_refl _) (by have := HB.out.size; have := HB2.out.size; have := hb4.size; rw [HG.out] at *; omega)
  exact bodyPost_ret (v := .tuple #[markV (0, 0), .int .i64 10]) (by simp [results, Try.results52, Act.put, asAddr, hrun, markV]) rfl ⟨rfl, hB⟩
/-- The number that stands in a page's name. -/
def numAt (w : World) (x : Nat) : Nat := (intOf ((w.cell? ⟨x, 1, none⟩).getD undef)).toNat
theorem frm_step {n : Nat} (h : n + 1 < 65536) : IntKind.u16.wrap ((n : Int) + 1) = ((n + 1 : Nat) : Int) := by
  simp [IntKind.wrap, IntKind.bits, IntKind.signed]
  omega

set_option maxRecDepth 20000 in
set_option maxHeartbeats 4000000 in
theorem frameTake_ok (hp : ConfP w0 a rs) (hb : Below w0.heap.size w0 w) (h : FP w g gm a us F) (h0 : w0.heap.size ≤ g) (h0' : w0.heap.size ≤ gm) (k n : Nat) (hk : k < rs.length) (h64 : rs.length ≤ 64) (hroom : us k < rs[k].fr) (hus : us k < 65536) (hn : n < 65535)
    (hfree : F (k, n) = none) (hlow : ∀ m, m < n → F (k, m) ≠ none) :
    Calls Try.prog 52 #[.pointer (some ⟨g, 0, none⟩), .int .i64 k] w fun e w' => e = .returned (.tuple #[markV (k, n), .int .i64 0]) ∧ FP w' g gm a (setN us k (us k + 1)) (putF F (k, n) fun _ => 0) ∧ Duo w w' g gm := by
  have hbn := bnew w (.cells #[.int .u8 0, .int .u16 0] 110)
  have hl := heap_alloc_last w (.cells #[.int .u8 0, .int .u16 0] 110)
  have HT := Lib.hid (h.keep hbn)
  have c0 := HT.out.c0
  have HB := Lib.hid hbn
  have HL := Lib.hid hl
  have HP := Lib.hid (hp.keep (bnext hb hbn))
  have HN := Lib.hid hfree
  have HW := Lib.hid hlow
  have HX := Lib.hid (show g < w.heap.size ∧ gm < w.heap.size from ⟨h.row.lt, h.mp.lt⟩)
  clear h hbn hl hp hb hfree hlow
  go_enter Try.func52, Try.ntmps52
  go_wp2_with fail
  generalize hG : w.heap.size = G at *
  generalize w.alloc (.cells #[.int .u8 0, .int .u16 0] 110) = w1 at *
  have HG := Lib.hid hG
  clear hG
  refine (HP.out.reg _ (Below.refl _ _) k).mono ?_
  rintro e w2 ⟨r, rfl, hr, hb2⟩
  rw [inB_nat hk]
  have hr' := hr k hk rfl
  have hfr' : decide (r.fr ≤ us k) = false := by rw [hr']; simp; omega
  clear hr hr' hroom
  have HB2 := Lib.hid hb2
  have HL2 := Lib.hid (bkeep hb2 HL.out)
  have HT2 := Lib.hid (HT.out.keep hb2)
  clear hb2 c0
  unfold regV regArr
  have hb3 := bnew w2 (.cells #[.string r.name, .int .u8 r.lab.1, .int .u16 r.lab.2, .int .i64 r.bl, .int .i64 r.no, .int .i64 r.fr, .int .i64 r.pr, .int .i64 r.op, .int .i64 r.cl] 138)
  have hl3 := bkeep hb3 HL2.out
  have hreg := rowcell (heap_alloc_last w2 (.cells #[.string r.name, .int .u8 r.lab.1, .int .u16 r.lab.2, .int .i64 r.bl, .int .i64 r.no, .int .i64 r.fr, .int .i64 r.pr, .int .i64 r.op, .int .i64 r.cl] 138))
  have HT3 := Lib.hid (HT2.out.keep hb3)
  have HB3 := Lib.hid hb3
  have HL3 := Lib.hid hl3
  have c3 := HT3.out.cu (l := k) (by omega)
  have c4 : (k : Int) < 64 := by omega
  have c5 : IntKind.u8.wrap (k : Int) = k := by simp [IntKind.wrap, IntKind.bits, IntKind.signed]; omega
  clear hl3 hb3
  go_wp2_with fail
  go_quiet (fail)
  go_wp2_with fail
  obtain ⟨w3, hw3⟩ : ∃ w3, w3 = w2.alloc (.cells #[.string r.name, .int .u8 r.lab.1, .int .u16 r.lab.2, .int .i64 r.bl, .int .i64 r.no, .int .i64 r.fr, .int .i64 r.pr, .int .i64 r.op, .int .i64 r.cl] 138) := ⟨_, rfl⟩
  have hz3 : w3.heap.size = w2.heap.size + 1 := by rw [hw3]; simp
  rw [← hw3] at HT3 HB3 HL3 hreg c3 ⊢
  rw [← hz3]
  clear hw3
  have hz4 : (w3.drewN nq).heap.size = w3.heap.size := rfl
  have hb4 : Below w3.heap.size w3 ((w3.drewN nq).alloc (.cells #[.int .u8 k, .int .u16 0] 110)) := (bdrewN (Below.refl _ _) nq).alloc (Nat.le_refl _) _
  have hn4 : ((w3.drewN nq).alloc (.cells #[.int .u8 k, .int .u16 0] 110)).heap[w3.heap.size]? = some (.cells #[.int .u8 k, .int .u16 0] 110 (0, 0)) := heap_alloc_last (w3.drewN nq) _
  generalize hw4 : (w3.drewN nq).alloc (.cells #[.int .u8 k, .int .u16 0] 110) = w4 at *
  have HT4 := Lib.hid (HT3.out.keep hb4)
  have HL4 := Lib.hid (bkeep hb4 HL3.out)
  have HB4 := Lib.hid (bnext (bnext HB2.out HB3.out) hb4)
  have hlt : w3.heap.size < w4.heap.size := by rw [← hw4]; simp
  obtain ⟨L, hLe⟩ : ∃ L, L = w3.heap.size := ⟨_, rfl⟩
  rw [← hLe] at hn4 hlt ⊢
  have HN4 := Lib.hid hn4
  have HLe := Lib.hid hLe
  have HZ3 := Lib.hid hz3
  clear hz3 hz4 hb4 hn4 hw4 hLe hreg c3 hfr'
  clear HT3 HL3 HT2 HL2 HT HL
  go_loopw [39] (fun _ wr => ∃ m : Nat, m ≤ n ∧ One w4 wr (some L) ∧ wr.heap[L]? = some (.cells #[.int .u8 k, .int .u16 m] 110 (0, 0))) (fun _ wr => n - numAt wr L)
  case atStart => exact ⟨0, Nat.zero_le _, One.refl _ _, HN4.out⟩
  case round =>
    obtain ⟨m, hm, ho, hlb⟩ := hrel
    have hGL : G < L ∧ g < L ∧ gm < L := by
      have := HX.out; have := HB.out.size; have := HB2.out.size; have := HLe.out; have := HZ3.out; rw [HG.out] at *; omega
    have HTr := Lib.hid (HT4.out.one ho (by omega) (by omega))
    have HO := Lib.hid ho
    have c1 := rowcell hlb
    clear ho
    go_wp2_with fail
    refine (frameHas_in HTr.out (k, m) (by show k ≤ 255; omega) (by show m ≤ 65535; omega)).mono ?_
    rintro e w5 ⟨rfl, hb5⟩
    have HT5 := Lib.hid (HTr.out.keep hb5)
    have hl5 := bkeep hb5 hlb
    have HO5 := Lib.hid (HO.out.trans (one_of_below hb5 (some L)))
    have HLB := Lib.hid hlb
    have HL5 := Lib.hid hl5
    clear hlb hb5 c1
    by_cases hmn : m < n
    · have hs : (F (k, m)).isSome = true := by
        have := HW.out m hmn
        cases hF : F (k, m) with
        | none => exact absurd hF this
        | some _ => rfl
      rw [hs]
      have c1 := rowcell hl5
      have c2 := rowfree hl5
      have c3 := frm_step (n := m) (by omega)
      clear hs hl5
      go_wp2_with fail
      go_roundw
      case rel => exact ⟨m + 1, by omega, HO5.out.trans (one_setCell w5 L 1 _), by simpa using heap_setCell_same HL5.out (.int .u16 ((m + 1 : Nat) : Int)) (off := 1) (by simp)⟩
      case measure =>
        have e1 : numAt wr L = m := by simp [numAt, rowcell HLB.out, intOf]
        have e2 : numAt (w5.setCell ⟨L, 1, none⟩ (.int .u16 ((m : Int) + 1))) L = m + 1 := by
          simp only [numAt, rowcell (heap_setCell_same HL5.out (.int .u16 ((m : Int) + 1)) (off := 1) (by simp))]
          simp [intOf]
          try omega
        rw [e1, e2]
        omega
    · obtain rfl : m = n := by omega
      rw [HN.out]
      have c1 := rowcell hl5
      have c2 := rowfree hl5
      have c3 := HT5.out.c1
      clear hl5
      obtain ⟨Z, hZ⟩ : ∃ Z, Z = pageA fun _ => 0 := ⟨_, rfl⟩
      have HZ := Lib.hid hZ
      clear hZ
      go_wp2_with fail
      refine wp_region_still_tail 6 (by kernel_rfl) (by kernel_rfl) ?_
      simp only [List.take_succ_cons, List.take_zero, List.drop_succ_cons, List.drop_zero]
      change wpStill _ _ (World.drew w5) _ _ _
      iterate 5 still_step
      refine still_by (by kernel_rfl) (.agg Z) (some 51) rfl (exec_build 130 _ rfl Z (by rw [HZ.out]; kernel_rfl)) ?_
      refine wpStill_nil ?_
      change wpList _ _ _ _ _ (World.drew w5)
      obtain ⟨l, hkey⟩ := key_frame (k, m) (by show k ≤ 255; omega) (by show m ≤ 65535; omega)
      have HK := Lib.hid hkey
      clear hkey
      refine wpList_update_mk (by kernel_rfl) rfl (HT5.out.keep (drewb w5)).mp keyedFrame markV_inj Try.underlying131 _ _ _ rfl (by go_simp) (k, m) (by go_simp; try rfl) HK.out (fun _ => 0) (by go_simp; rw [HZ.out]; rfl) ?_
      intro w6 hmk ho6
      have HT6 := Lib.hid ((HT5.out.keep (drewb w5)).setMap ho6 hmk)
      have hl6 : w6.heap[L]? = some (.cells #[.int .u8 k, .int .u16 m] 110 (0, 0)) := ho6.blk HL5.out (fun e => by cases e; omega)
      have HO6 := Lib.hid ho6
      have ho6' : One w5 w6 (some gm) := ⟨ho6.os, ho6.tape, ho6.output, ho6.size, ho6.block⟩
      have HL6 := Lib.hid hl6
      clear c1 c2 c3 ho6 hmk
      have c1 := rowcell hl6
      have c2 := HT6.out.cu (l := k) (by omega)
      have c3 := HT6.out.frz
      have hG6 := (ho6'.blk ((HO5.out).blk HL4.out (fun e => by cases e; omega)) (fun e => by have := HX.out; cases e; omega) : w6.heap[G]? = some (.cells #[.int .u8 0, .int .u16 0] 110 (0, 0)))
      have c7 := rowcell hG6
      have c8 := rowfree hG6
      have HG6 := Lib.hid hG6
      have HO6' := Lib.hid ho6'
      clear ho6' hG6
      have c6 : IntKind.i64.wrap ((us k : Int) + 1) = ((us k + 1 : Nat) : Int) := by simp [IntKind.wrap, IntKind.bits, IntKind.signed]; omega
      clear hl6
      go_wp2_with fail
      refine wp_region_still_tail 10 (by kernel_rfl) (by kernel_rfl) ?_
      simp only [List.take_succ_cons, List.take_zero, List.drop_succ_cons, List.drop_zero]
      change wpStill _ _ (World.drew w6) _ _ _
      iterate 10 still_step
      refine wpStill_nil ?_
      change wpList _ _ _ _ _ (World.drew w6)
      go_wp2_with fail
      have hA := HT6.out.setUs k (us k + 1) (by omega)
      rw [show ((us k + 1 : Nat) : Int) = (us k : Int) + 1 by omega] at hA
      have oA := one_setCell w6 g (2 + k) (.int .i64 ((us k : Int) + 1))
      have hGA := oA.blk HG6.out (fun e => by have := HX.out; cases e; omega)
      generalize w6.setCell ⟨g, 2 + k, none⟩ (.int .i64 ((us k : Int) + 1)) = wA at *
      obtain ⟨h4, o4⟩ := set_two hGA (.int .u8 k) (.int .u16 m)
      generalize (wA.setCell ⟨G, 0, none⟩ (.int .u8 k)).setCell ⟨G, 1, none⟩ (.int .u16 m) = wB at *
      have hrun := frameLoad wB.drew G k m h4
      have hbb : Below w.heap.size w w4 := by rw [HG.out]; exact HB.out.trans (HB4.out.mono (by have := HB.out.size; rw [HG.out] at this; exact this))
      have hD : Duo w wB.drew g gm := ((((((Duo.of_below hbb).of_one_new HO5.out (by rw [HG.out]; omega)).trans (Duo.of_one' HO6'.out)).trans (Duo.of_one oA)).of_one_new o4 (by rw [HG.out]; omega)).trans (Duo.of_below (drewb wB)))
      have hF := (hA.one o4 (by have := HX.out; omega) (by have := HX.out; omega)).keep (drewb wB)
      exact bodyPost_ret (v := .tuple #[markV (k, m), .int .i64 0]) (by simp [results, Try.results52, Act.put, asAddr, hrun, markV]) rfl ⟨rfl, hF, hD⟩
end
end Go.Proofs.Ytapcbfeifeobhaa
