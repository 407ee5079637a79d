/- Nodes: Encode. -/
import Derived.Test.YtonfnlohbgbffaaNodD
set_option linter.unusedVariables false
set_option linter.unusedSimpArgs false
namespace Go.Proofs.Ytonfnlohbgbffaa
open Go.RowKit

def NodL.d (n : NodL) (j : Nat) : Nat := if j = 0 then n.d0 else if j = 1 then n.d1 else if j = 2 then n.d2 else if j = 3 then n.d3 else if j = 4 then n.d4 else n.d5
def dirB (n : NodL) (bf : Nat → Nat) : Nat → Nat → Nat
  | 0 => bf
  | j + 1 => putB (dirB n bf j) (8 + 2 * j) 2 (n.d j)
def headB (n : NodL) : Nat → Nat := putB (putB (putB (putB (fun _ => 0) 0 1 n.kd) 1 1 n.lk) 2 2 n.gn) 4 4 n.sz
/-- A node's bytes. -/
def encN (n : NodL) : Nat → Nat := putB (putB (dirB n (headB n) 6) 20 2 n.sg) 22 2 n.db
def byteF (bf : Nat → Nat) (i : Nat) : Value := .int .u8 (bf i)
def n32 : Array Value := rowArr 32 (byteF fun _ => 0)
def f33 : Array Value := rowArr 33 (fldF (fun _ => 0) 0)
theorem n32_zero : (Try.prog.info? 28).bind (·.zero) = some (.agg n32) := by kernel_rfl
theorem f33_zero : (Try.prog.info? 130).bind (·.zero) = some (.agg f33) := by kernel_rfl
theorem n32_size : (Try.prog.info? 28).map (·.size) = some 32 := by kernel_rfl
theorem byteF_one (bf : Nat → Nat) : ∀ v ∈ (rowArr 32 (byteF bf)).toList, v.oneCell' = true := by
  intro v hv
  simp only [rowArr, List.mem_map] at hv
  obtain ⟨i, _, rfl⟩ := hv
  rfl
theorem idxAgg (w : World) : (isAgg 23).run Try.prog w = .ok false w := by simp [isAgg, run_underlying Try.underlying23]
/-- While a node is written as bytes. -/
structure EncW (w0 w : World) (G R F : Nat) (n : NodL) (bf : Nat → Nat) (at_ : Nat) : Prop where
  g : w.heap[G]? = some (.cells (nodA n) 27 (0, 0))
  r : w.rowIs R 28 32 (byteF fun _ => 0)
  f : FL w F bf at_
  b : Below w0.heap.size w0 w
  hf : w0.heap.size ≤ F
  gf : G ≠ F
  rf : R ≠ F
theorem EncW.step {w0 w w' : World} {G R F : Nat} {n : NodL} {bf bf' : Nat → Nat} {a a' : Nat} (h : EncW w0 w G R F n bf a) (o : One w w' (some F)) (f : FL w' F bf' a') : EncW w0 w' G R F n bf' a' :=
  ⟨o.blk h.g (fun e => h.gf (by injection e with e; exact e.symm)), h.r.of_block (o.block R h.r.lt (fun e => h.rf (by injection e with e; exact e.symm))), f, bone h.b o h.hf h.b.size, h.hf, h.gf, h.rf⟩

set_option maxRecDepth 20000 in
set_option maxHeartbeats 8000000 in
theorem nodeEncode_in (n : NodL) (ho : n.ok) (w : World) : Calls Try.prog 16 #[.agg (nodA n)] w fun e w' => e = .returned (.agg (rowArr 32 (byteF (encN n)))) ∧ Below w.heap.size w w' := by
  have hu : ∀ x : Nat, x < 4294967296 → IntKind.u32.wrap (x : Int) = x := fun x hx => u32_wrap_id _ (by omega) (by omega)
  have h255 := ho.kd
  have h256 := ho.lk
  have h257 := ho.gn
  have h258 := ho.sg
  have h259 := ho.db
  have hsz := ho.sz
  have k0 := hu n.kd (by omega)
  have k1 := hu n.lk (by omega)
  have k2 := hu n.gn (by omega)
  have k10 := hu n.sg (by omega)
  have k11 := hu n.db (by omega)
  have HO := Lib.hid ho
  have HU := Lib.hid hu
  have hW : EncW w (((w.alloc (.cells (nodA n) 27)).alloc (.cells n32 28)).alloc (.cells f33 130)) w.heap.size (w.heap.size + 1) (w.heap.size + 2) n (fun _ => 0) 0 := by
    have e1 : (w.alloc (.cells (nodA n) 27)).heap.size = w.heap.size + 1 := by simp
    have e2 : ((w.alloc (.cells (nodA n) 27)).alloc (.cells n32 28)).heap.size = w.heap.size + 2 := by simp
    have h1 := heap_alloc_last w (.cells (nodA n) 27)
    have h2 := heap_alloc_last (w.alloc (.cells (nodA n) 27)) (.cells n32 28)
    have h3 := heap_alloc_last ((w.alloc (.cells (nodA n) 27)).alloc (.cells n32 28)) (.cells f33 130)
    have b1 := bnew (w.alloc (.cells (nodA n) 27)) (.cells n32 28)
    have b2 := bnew ((w.alloc (.cells (nodA n) 27)).alloc (.cells n32 28)) (.cells f33 130)
    rw [e1] at h2
    rw [e2] at h3
    exact ⟨bkeep b2 (bkeep b1 h1), rowIs_of_arr (bkeep b2 h2), rowIs_of_arr h3, bnewAfter (bnewAfter (bnew w _) _) _, by omega, by omega, by omega⟩
  have HW := Lib.hid hW
  clear ho hu hW
  go_enter Try.func16, Try.ntmps16
  go_wp2_with (first | (refine wpList_allocTo rfl 28 rfl (some 2) rfl (.agg n32) n32_zero ?_) | (refine wpList_allocTo rfl 130 rfl (some 3) rfl (.agg f33) f33_zero ?_) | (with_reducible refine wpList_stop (some 7) rfl ?_))
  refine Lib.hid ?_
  obtain ⟨G, hG⟩ : ∃ G, G = w.heap.size := ⟨_, rfl⟩
  obtain ⟨R, hR⟩ : ∃ R, R = w.heap.size + 1 := ⟨_, rfl⟩
  obtain ⟨F, hF⟩ : ∃ F, F = w.heap.size + 2 := ⟨_, rfl⟩
  rw [← hF, ← hR, ← hG] at HW
  simp only [World.size_alloc, Nat.add_assoc, Nat.reduceAdd]
  rw [← hF, ← hR, ← hG]
  generalize ((w.alloc (.cells (nodA n) 27)).alloc (.cells n32 28)).alloc (.cells f33 130) = w0 at *
  have HRR := Lib.hid (show w.heap.size ≤ R by omega)
  clear hG hR hF
  have cc := rowcell HW.out.g
  unfold nodA at cc
  go_wp2_with fail
  refine (nodePut_in HW.out.f n.kd 1 (by omega) (by omega) (by omega)).mono ?_
  rintro e w1 ⟨rfl, hf1, ho1⟩
  have HW1 := Lib.hid (HW.out.step ho1 hf1)
  clear cc hf1 ho1
  have cc := rowcell HW1.out.g
  unfold nodA at cc
  go_wp2_with fail
  refine (nodePut_in HW1.out.f n.lk 1 (by omega) (by omega) (by omega)).mono ?_
  rintro e w2 ⟨rfl, hf2, ho2⟩
  have HW2 := Lib.hid (HW1.out.step ho2 hf2)
  clear cc hf2 ho2
  have cc := rowcell HW2.out.g
  unfold nodA at cc
  go_wp2_with fail
  refine (nodePut_in HW2.out.f n.gn 2 (by omega) (by omega) (by omega)).mono ?_
  rintro e w3 ⟨rfl, hf3, ho3⟩
  have HW3 := Lib.hid (HW2.out.step ho3 hf3)
  clear cc hf3 ho3
  have cc := rowcell HW3.out.g
  unfold nodA at cc
  go_wp2_with fail
  refine (nodePut_in HW3.out.f n.sz 4 (by omega) (by omega) (by omega)).mono ?_
  rintro e w4 ⟨rfl, hf4, ho4⟩
  have HW4 := Lib.hid (HW3.out.step ho4 hf4)
  clear cc hf4 ho4
  have cc := rowcell HW4.out.g
  unfold nodA at cc
  go_wp2_with fail
  go_loopw [23] (fun r wx => ∃ j : Nat, j ≤ 6 ∧ r = .int .i64 j ∧ EncW w wx G R F n (dirB n (headB n) j) (8 + 2 * j)) (fun r _ => 6 - (intOf r).toNat)
  case atStart => exact ⟨0, by omega, rfl, HW4.out⟩
  case round =>
    obtain ⟨j, hj, rfl, he⟩ := hrel
    have HE := Lib.hid he
    clear he cc
    rcases (show j = 0 ∨ j = 1 ∨ j = 2 ∨ j = 3 ∨ j = 4 ∨ j = 5 ∨ j = 6 by omega) with rfl | rfl | rfl | rfl | rfl | rfl | rfl
    · have kd := HU.out n.d0 (by have := HO.out.d0; omega)
      have hix : ∀ w, (Instr.index 25 (.agg #[.int .u16 n.d0, .int .u16 n.d1, .int .u16 n.d2, .int .u16 n.d3, .int .u16 n.d4, .int .u16 n.d5]) (.int .i64 0)).run Try.prog w = .ok (.int .u16 n.d0) w := fun w => run_index_arr Try.underlying25 (by kernel_rfl) (fun w => idxAgg w) _ (p := 0) rfl (by omega) w
      have hd := HO.out.d0
      go_wp2_with fail
      refine (nodePut_in HE.out.f n.d0 2 (by omega) (by omega) (by omega)).mono ?_
      rintro e w6 ⟨rfl, hf6, ho6⟩
      have HE6 := Lib.hid (show EncW w w6 G R F n (dirB n (headB n) 1) (8 + 2 * 1) from HE.out.step ho6 hf6)
      clear hf6 ho6
      go_wp2_with fail
      go_roundw
      case rel => exact ⟨1, by omega, rfl, HE6.out⟩
      case measure => simp [intOf]
    · have kd := HU.out n.d1 (by have := HO.out.d1; omega)
      have hix : ∀ w, (Instr.index 25 (.agg #[.int .u16 n.d0, .int .u16 n.d1, .int .u16 n.d2, .int .u16 n.d3, .int .u16 n.d4, .int .u16 n.d5]) (.int .i64 1)).run Try.prog w = .ok (.int .u16 n.d1) w := fun w => run_index_arr Try.underlying25 (by kernel_rfl) (fun w => idxAgg w) _ (p := 1) rfl (by omega) w
      have hd := HO.out.d1
      go_wp2_with fail
      refine (nodePut_in HE.out.f n.d1 2 (by omega) (by omega) (by omega)).mono ?_
      rintro e w6 ⟨rfl, hf6, ho6⟩
      have HE6 := Lib.hid (show EncW w w6 G R F n (dirB n (headB n) 2) (8 + 2 * 2) from HE.out.step ho6 hf6)
      clear hf6 ho6
      go_wp2_with fail
      go_roundw
      case rel => exact ⟨2, by omega, rfl, HE6.out⟩
      case measure => simp [intOf]
    · have kd := HU.out n.d2 (by have := HO.out.d2; omega)
      have hix : ∀ w, (Instr.index 25 (.agg #[.int .u16 n.d0, .int .u16 n.d1, .int .u16 n.d2, .int .u16 n.d3, .int .u16 n.d4, .int .u16 n.d5]) (.int .i64 2)).run Try.prog w = .ok (.int .u16 n.d2) w := fun w => run_index_arr Try.underlying25 (by kernel_rfl) (fun w => idxAgg w) _ (p := 2) rfl (by omega) w
      have hd := HO.out.d2
      go_wp2_with fail
      refine (nodePut_in HE.out.f n.d2 2 (by omega) (by omega) (by omega)).mono ?_
      rintro e w6 ⟨rfl, hf6, ho6⟩
      have HE6 := Lib.hid (show EncW w w6 G R F n (dirB n (headB n) 3) (8 + 2 * 3) from HE.out.step ho6 hf6)
      clear hf6 ho6
      go_wp2_with fail
      go_roundw
      case rel => exact ⟨3, by omega, rfl, HE6.out⟩
      case measure => simp [intOf]
    · have kd := HU.out n.d3 (by have := HO.out.d3; omega)
      have hix : ∀ w, (Instr.index 25 (.agg #[.int .u16 n.d0, .int .u16 n.d1, .int .u16 n.d2, .int .u16 n.d3, .int .u16 n.d4, .int .u16 n.d5]) (.int .i64 3)).run Try.prog w = .ok (.int .u16 n.d3) w := fun w => run_index_arr Try.underlying25 (by kernel_rfl) (fun w => idxAgg w) _ (p := 3) rfl (by omega) w
      have hd := HO.out.d3
      go_wp2_with fail
      refine (nodePut_in HE.out.f n.d3 2 (by omega) (by omega) (by omega)).mono ?_
      rintro e w6 ⟨rfl, hf6, ho6⟩
      have HE6 := Lib.hid (show EncW w w6 G R F n (dirB n (headB n) 4) (8 + 2 * 4) from HE.out.step ho6 hf6)
      clear hf6 ho6
      go_wp2_with fail
      go_roundw
      case rel => exact ⟨4, by omega, rfl, HE6.out⟩
      case measure => simp [intOf]
    · have kd := HU.out n.d4 (by have := HO.out.d4; omega)
      have hix : ∀ w, (Instr.index 25 (.agg #[.int .u16 n.d0, .int .u16 n.d1, .int .u16 n.d2, .int .u16 n.d3, .int .u16 n.d4, .int .u16 n.d5]) (.int .i64 4)).run Try.prog w = .ok (.int .u16 n.d4) w := fun w => run_index_arr Try.underlying25 (by kernel_rfl) (fun w => idxAgg w) _ (p := 4) rfl (by omega) w
      have hd := HO.out.d4
      go_wp2_with fail
      refine (nodePut_in HE.out.f n.d4 2 (by omega) (by omega) (by omega)).mono ?_
      rintro e w6 ⟨rfl, hf6, ho6⟩
      have HE6 := Lib.hid (show EncW w w6 G R F n (dirB n (headB n) 5) (8 + 2 * 5) from HE.out.step ho6 hf6)
      clear hf6 ho6
      go_wp2_with fail
      go_roundw
      case rel => exact ⟨5, by omega, rfl, HE6.out⟩
      case measure => simp [intOf]
    · have kd := HU.out n.d5 (by have := HO.out.d5; omega)
      have hix : ∀ w, (Instr.index 25 (.agg #[.int .u16 n.d0, .int .u16 n.d1, .int .u16 n.d2, .int .u16 n.d3, .int .u16 n.d4, .int .u16 n.d5]) (.int .i64 5)).run Try.prog w = .ok (.int .u16 n.d5) w := fun w => run_index_arr Try.underlying25 (by kernel_rfl) (fun w => idxAgg w) _ (p := 5) rfl (by omega) w
      have hd := HO.out.d5
      go_wp2_with fail
      refine (nodePut_in HE.out.f n.d5 2 (by omega) (by omega) (by omega)).mono ?_
      rintro e w6 ⟨rfl, hf6, ho6⟩
      have HE6 := Lib.hid (show EncW w w6 G R F n (dirB n (headB n) 6) (8 + 2 * 6) from HE.out.step ho6 hf6)
      clear hf6 ho6
      go_wp2_with fail
      go_roundw
      case rel => exact ⟨6, by omega, rfl, HE6.out⟩
      case measure => simp [intOf]
    · have cc := rowcell HE.out.g
      unfold nodA at cc
      go_wp2_with fail
      refine (nodePut_in HE.out.f n.sg 2 (by omega) (by omega) (by omega)).mono ?_
      rintro e w6 ⟨rfl, hf6, ho6⟩
      have HW6 := Lib.hid (HE.out.step ho6 hf6)
      clear cc hf6 ho6
      have cc := rowcell HW6.out.g
      unfold nodA at cc
      go_wp2_with fail
      refine (nodePut_in HW6.out.f n.db 2 (by omega) (by omega) (by omega)).mono ?_
      rintro e w7 ⟨rfl, hf7, ho7⟩
      have HW7 := Lib.hid (show EncW w w7 G R F n (encN n) _ from HW6.out.step ho7 hf7)
      clear cc hf7 ho7
      have hcs := fun j v (h : (rowArr 32 (byteF (encN n))).toList[j]? = some v) => show w7.cell? ⟨F, 0 + j, none⟩ = some v from by
        obtain ⟨h1, rfl⟩ := rowArr_get _ _ _ _ h
        rw [Nat.zero_add, HW7.out.f.cell (i := j) (by omega)]
        unfold fldF byteF
        rw [if_neg (by omega)]
      have hcr := fun j (h : j < (rowArr 32 (byteF (encN n))).size) => show (w7.cell? ⟨R, 0 + j, none⟩).isSome = true from by
        rw [rowArr_size] at h
        rw [Nat.zero_add, HW7.out.r.cell h]; rfl
      have H1 := Lib.hid hcs
      have H2 := Lib.hid hcr
      clear hcs hcr
      go_wp2_with (first
        | (refine wpList_load_pieceTo rfl 28 (.tmp 38) rfl (some 39) rfl F 0 rfl (rowArr 32 (byteF (encN n))) _ H1.out Try.underlying28 rfl (by rw [rowArr_size]; exact n32_size) ?_)
        | (refine wpList_store_pieceTo rfl 28 (.tmp 2) (.tmp 39) rfl rfl R 0 (rowArr 32 (byteF (encN n))) rfl rfl (by rw [rowArr_size]; exact n32_size) H2.out (fun j _ => HW7.out.r.frozen _) (byteF_one _) ?_; intro wS hwS; have HS := Lib.hid hwS; clear hwS))
      have hrS := (rowIs_piece (m := 32) (off := 0) (h := byteF (encN n)) HW7.out.r).congr (g := byteF (encN n)) (fun i hi => by rw [if_pos (by omega)]; rfl)
      have hRb : w.heap.size ≤ R := HRR.out
      have hBS : Below w.heap.size w (w7.setCells R 0 (rowArr 32 (byteF (encN n))).toList) := below_setCells hRb _ _ _ HW7.out.b
      rw [← HS.out] at hrS hBS
      have hrun : (loadVar 28 ⟨R, 0, none⟩).run Try.prog wS = .ok (.agg (rowArr 32 (byteF (encN n)))) wS := run_loadVar_piece wS 28 R 0 (rowArr 32 (byteF (encN n))) _ (fun j v h => by
        obtain ⟨h1, rfl⟩ := rowArr_get _ _ _ _ h
        rw [Nat.zero_add]; exact hrS.cell h1) Try.underlying28 rfl (by rw [rowArr_size]; exact n32_size)
      exact bodyPost_ret (v := .agg (rowArr 32 (byteF (encN n)))) (by simp [results, Try.results16, Act.put, asAddr, hrun]) rfl ⟨rfl, hBS⟩
end Go.Proofs.Ytonfnlohbgbffaa
