/- TurnFair: its walk. -/
import Derived.Test.YtiedenjcmkebaaaTskK
set_option linter.unusedVariables false
set_option linter.unusedSimpArgs false
namespace Go.Proofs.Ytiedenjcmkebaaa
open Go.RowKit
open Go.Maps (Keyed)

def u16V (n : Nat) : Value := .int .u16 n
theorem u16V_inj (a b : Nat) (h : u16V a = u16V b) : a = b := by unfold u16V at h; injection h with _ h; omega
theorem keyedU16 : Keyed Try.prog 39 := Go.Maps.int_keyed Try.underlying39
theorem key_u16 (n : Nat) (h : n ≤ 65535) : ∃ l, keyOf Try.prog 39 (u16V n) = some l :=
  ⟨_, Go.Maps.keyOf_int_mk Try.underlying39 (by simp [Lit.wf, IntKind.min, IntKind.max, IntKind.bits, IntKind.signed]; omega)⟩
theorem intZ : (Try.prog.info? 3).bind (·.zero) = some (.int .i64 0) := by kernel_rfl
theorem lk_int (x : Option Nat) : lkV intV (.int .i64 0) false x = .int .i64 ((x.getD 0 : Nat) : Int) := by cases x <;> rfl
theorem neqProc_same (b : Nat) (w : World) : (binOp .neq 63 (.pointer (some ⟨b, 0, none⟩)) (.pointer (some ⟨b, 0, none⟩))).run Try.prog w = .ok (.bool false) w := by
  have h := eqProc_same b w
  simp only [binOp]
  simp [Op.equal, Op.maxDepth, h]
theorem neqProc_other {b b' : Nat} {ca cb : Array Value} {ta tb : TypeId} (hne : b ≠ b') (w : World) (ha : w.heap[b]? = some (.cells ca ta (0, 0))) (hb : w.heap[b']? = some (.cells cb tb (0, 0))) :
    (binOp .neq 63 (.pointer (some ⟨b, 0, none⟩)) (.pointer (some ⟨b', 0, none⟩))).run Try.prog w = .ok (.bool true) w := by
  have h := eqProc_other hne w ha hb
  simp only [binOp]
  simp [Op.equal, Op.maxDepth, h]

section
variable {B : Nat} {w0 w w' : World} {g gm gt gd R : Nat} {a : Option Addr} {T T' : Nat → List TE} {last last' : Nat → Nat} {D D' : Nat → Option Nat} {rg : RegL}
/-- All that the walk holds. -/
structure FW (B : Nat) (w0 w : World) (g gm gt gd R : Nat) (a : Option Addr) (T : Nat → List TE) (last : Nat → Nat) (D : Nat → Option Nat) (rg : RegL) : Prop where
  bl : Below w0.heap.size w0 w
  tt : TT B w g gm a T
  tu : TU w gt a last 0 0
  mp : MK w Try.prog 39 gd u16V intV D
  rr : w.heap[R]? = some (.cells (regArr rg) 43 (0, 0))
  ne : gd ≠ gm
  b0 : w0.heap.size ≤ B
  b1 : w0.heap.size ≤ gt
  b2 : w0.heap.size ≤ gd
  b3 : B ≤ g
  b4 : B ≤ gm
  b5 : B ≤ w.heap.size
theorem FW.keep (h : FW B w0 w g gm gt gd R a T last D rg) (hb : Below w.heap.size w w') : FW B w0 w' g gm gt gd R a T last D rg :=
  ⟨h.bl.trans (hb.mono h.bl.size), h.tt.keep hb, h.tu.of_block (hb.block gt h.tu.lt), h.mp.keep hb, bkeep hb h.rr, h.ne, h.b0, h.b1, h.b2, h.b3, h.b4, Nat.le_trans h.b5 hb.size⟩
theorem FW.gdS (h : FW B w0 w g gm gt gd R a T last D rg) : ¬ tS g gm T gd := fun hk => by
  rcases hk with e | e | ⟨l, t, ht, e⟩
  · have := rowIs_arr h.tt.tp.row
    rw [← e] at this
    exact h.mp.notCells this
  · exact h.ne e
  · have := rowIs_arr (h.tt.pr l t ht)
    rw [e] at this
    exact h.mp.notCells this
theorem FW.gdt (h : FW B w0 w g gm gt gd R a T last D rg) : gt ≠ gd := fun e => by
  have := rowIs_arr h.tu
  rw [e] at this
  exact h.mp.notCells this
theorem FW.RS (h : FW B w0 w g gm gt gd R a T last D rg) : ¬ tS g gm T R := h.tt.notS h.rr (by decide) (by decide)
theorem FW.Rt (h : FW B w0 w g gm gt gd R a T last D rg) : R ≠ gt := fun e => by
  have := rowIs_arr h.tu
  rw [← e] at this
  exact absurd (cells_type h.rr this) (by decide)
theorem FW.Rd (h : FW B w0 w g gm gt gd R a T last D rg) : R ≠ gd := fun e => by
  have := h.rr
  rw [e] at this
  exact h.mp.notCells this
theorem FW.tab (h : FW B w0 w g gm gt gd R a T last D rg) (c : Chg (tS g gm T) w w') (ht : TT B w' g gm a T') : FW B w0 w' g gm gt gd R a T' last D rg :=
  ⟨Chg.go h.bl c (fun k hk => by
    have h0 := h.b0
    have h3 := h.b3
    have h4 := h.b4
    rcases hk with rfl | rfl | ⟨l, t, ht, rfl⟩
    · omega
    · omega
    · have := h.tt.ok.base _ _ ht; omega) h.bl.size, ht, h.tu.of_block (c.block gt h.tu.lt (h.tu.notS h.tt)), h.mp.keepAt (c.block gd h.mp.lt h.gdS), c.blk h.rr h.RS, h.ne, h.b0, h.b1, h.b2, h.b3, h.b4, Nat.le_trans h.b5 c.size⟩
theorem FW.pick (h : FW B w0 w g gm gt gd R a T last D rg) (c : Chg (fun k => k = gt) w w') (ht : TT B w' g gm a T) (hu : TU w' gt a last' 0 0) : FW B w0 w' g gm gt gd R a T last' D rg :=
  ⟨Chg.go h.bl c (fun k hk => by rw [hk]; exact h.b1) h.bl.size, ht, hu, h.mp.keepAt (c.block gd h.mp.lt (fun e => h.gdt e.symm)), c.blk h.rr h.Rt, h.ne, h.b0, h.b1, h.b2, h.b3, h.b4, Nat.le_trans h.b5 c.size⟩
theorem FW.map (h : FW B w0 w g gm gt gd R a T last D rg) (o : One w w' (some gd)) (hm : MK w' Try.prog 39 gd u16V intV D') : FW B w0 w' g gm gt gd R a T last D' rg :=
  ⟨bone h.bl o h.b2 h.bl.size, h.tt.one o h.gdS, h.tu.of_block (o.block gt h.tu.lt (fun e => h.gdt (by injection e with e; exact e.symm))), hm, o.blk h.rr (fun e => h.Rd (by injection e with e; exact e.symm)), h.ne, h.b0, h.b1, h.b2, h.b3, h.b4, Nat.le_trans h.b5 o.size⟩
end

set_option maxRecDepth 200000 in
set_option maxHeartbeats 16000000 in
theorem turnFair_walk (W : World) (v0 v1 v2 : Value) (o0 : Arg Try.prog W 26 v0) (o1 : Arg Try.prog W 5 v1) (o2 : Arg Try.prog W 95 v2) :
    Calls Try.prog 7 #[v0, v1, v2] W fun e w' => e = .returned (.bool true) ∧ Below W.heap.size W w' := by
  obtain ⟨s, S0⟩ := SizeV.of_arg o0
  have HSV := Lib.hid S0
  obtain ⟨X, tv, rfl, hX, hrest⟩ := S0
  obtain ⟨x1, rfl, h1⟩ := Arg.int Try.underlying5 o1
  have b1 := wf_u8 h1
  obtain ⟨lb, rfl⟩ : ∃ n : Nat, x1 = n := ⟨x1.toNat, by omega⟩
  obtain ⟨n, xs, hs, hx⟩ := SR.of_arg (e := 100) Try.underlying95 (by rw [show Try.prog.cellsOf 100 = 6 by kernel_rfl]; omega) o2
  have e6 : Try.prog.cellsOf 100 = 6 := by kernel_rfl
  rw [e6] at hs hx
  obtain ⟨A, cap, rfl, hn1, hn2⟩ := hs.form
  have hnm : (n : Int) ≤ 9223372036854775807 := by unfold maxLen at hn2; omega
  have HS := Lib.hid hs
  have HXX := Lib.hid hx
  obtain ⟨rs, hrs⟩ : ∃ rs, rs = sizeRegs s := ⟨_, rfl⟩
  have hn64 : rs.length ≤ 64 := by rw [hrs]; exact sizeLe64 s
  have hr1 : 0 < rs.length := by rw [hrs, sizeRegs_length]; have := manyOf_le s; omega
  have HPR := Lib.hid (show ∀ r ∈ rs, r.pr ≤ 16 by rw [hrs]; exact sizePr_le s)
  have HRS := Lib.hid hrs
  have HX := Lib.hid (show (Try.prog.info? 26).map (·.size) = some X.size by rw [hX]; kernel_rfl)
  obtain ⟨k, hk⟩ : ∃ k, k = lb % rs.length := ⟨_, rfl⟩
  have hkr : k < rs.length := by rw [hk]; exact Nat.mod_lt _ hr1
  have fk : (lb : Int) % (rs.length : Int) = k := by rw [hk]; omega
  have fk2 : (lb : Int).tmod (rs.length : Int) = k := by rw [Int.tmod_eq_emod_of_nonneg (by omega)]; exact fk
  have fr0 : ¬ ((rs.length : Int) = 0) := by omega
  clear hrest hrs hX o0 o1 o2 h1 hs hx e6 hk
  have hb0 := bnew W (.cells X 26)
  have ha0 := heap_alloc_last W (.cells X 26)
  have HSX := Lib.hid (SizeV.keep HSV.out hb0)
  clear HSV
  go_enter Try.func7, Try.ntmps7
  go_wp2_with fail
  obtain ⟨G, hG⟩ : ∃ G, G = W.heap.size := ⟨_, rfl⟩
  rw [← hG] at ha0 ⊢
  generalize W.alloc (.cells X 26) = w0 at *
  have HG := Lib.hid hG
  have HB0 := Lib.hid hb0
  have HA0 := Lib.hid ha0
  clear hG hb0 ha0
  refine (turnAwake_in _).mono ?_; rintro e w1 ⟨rfl, hb1⟩
  have HB1 := Lib.hid (bnext HB0.out hb1)
  have HA1 := Lib.hid (bkeep hb1 HA0.out)
  have HS1 := Lib.hid (SizeV.keep HSX.out hb1)
  clear hb1
  go_wp2_with (refine wpList_load_pieceTo rfl 26 (.tmp 3) rfl (some 22) rfl G 0 rfl X _ (fun j v hj => by rw [Nat.zero_add, rowcell HA1.out]; simpa using hj) Try.underlying26 rfl HX.out ?_)
  refine (sizeConf_in _ _ s HS1.out).mono ?_; rintro e w3 ⟨hb3, cg, gT, gN, gL, v', m', u', rfl, hcf⟩
  have hcp := hcf.toP (sizeLe _) (sizeOk _)
  rw [← HRS.out] at hcp
  have HP := Lib.hid hcp
  have HB3 := Lib.hid (bnext HB1.out hb3)
  clear hcf hb3 hcp
  go_wp2_with fail
  refine (turnNew_in _ _).mono ?_; rintro e w4 ⟨gt, rfl, hgt, hu, hb4⟩
  go_wp2_with fail
  refine (taskNew_in _ _).mono ?_; rintro e w5 ⟨g, gm, rfl, hg, hgm, ht, hb5⟩
  have HU5 := Lib.hid (show TU w5 gt (some ⟨cg, 0, none⟩) (fun _ => 0) 0 0 from hu.of_block (hb5.block gt hu.lt))
  have HT5 := Lib.hid ht
  have HB5 := Lib.hid (bnext hb4 hb5)
  have HGG := Lib.hid (show w3.heap.size ≤ gt ∧ w4.heap.size ≤ g ∧ w4.heap.size ≤ gm ∧ w3.heap.size ≤ w4.heap.size ∧ w4.heap.size ≤ w5.heap.size by have := hb4.size; have := hb5.size; omega)
  clear hu hb4 hb5 ht hgt hg hgm
  go_wp2_with fail
  refine (HP.out.len _ HB5.out).mono ?_
  rintro e w6 ⟨rfl, rfl⟩
  go_wp2_with fail
  refine (HP.out.reg _ HB5.out k).mono ?_
  rintro e w6 ⟨rg, rfl, hrg, hb6⟩
  rw [inB_nat hkr]
  have hrg' := hrg k hkr rfl
  have HRG := Lib.hid hrg'
  have hpr16 : rg.pr ≤ 16 := by rw [hrg']; exact HPR.out _ (List.getElem_mem hkr)
  have hmm := @run_makeMap Try.prog
  clear hrg hrg'
  unfold regV regArr
  have hb7 := bnewAfter (bnew w6 (.cells (regArr rg) 43)) (.map #[] 0)
  have hr7 : ((w6.alloc (.cells (regArr rg) 43)).alloc (.map #[] 0)).heap[w6.heap.size]? = some (.cells (regArr rg) 43 (0, 0)) := bkeep (bnew _ _) (heap_alloc_last w6 _)
  have hm7 := MK.made (κ := Nat) (P := Try.prog) (k := 39) (kv := u16V) (vv := intV) (w6.alloc (.cells (regArr rg) 43))
  rw [World.size_alloc] at hm7
  have hB57 : Below w5.heap.size w5 ((w6.alloc (.cells (regArr rg) 43)).alloc (.map #[] 0)) := bnext hb6 hb7
  have hfw : FW w4.heap.size w3 ((w6.alloc (.cells (regArr rg) 43)).alloc (.map #[] 0)) g gm gt (w6.heap.size + 1) w6.heap.size (some ⟨cg, 0, none⟩) (fun _ => []) (fun _ => 0) (fun _ => none) rg :=
    ⟨bnext HB5.out hB57, HT5.out.keep hB57, HU5.out.of_block (hB57.block gt HU5.out.lt), hm7, hr7, by have := HT5.out.tp.mp.lt; have := hb6.size; omega, HGG.out.2.2.2.1, HGG.out.1, by have := HB5.out.size; have := hb6.size; omega, HGG.out.2.1, HGG.out.2.2.1, Nat.le_trans HGG.out.2.2.2.2 hB57.size⟩
  have HFW := Lib.hid hfw
  unfold regArr at HFW
  clear hb7 hr7 hm7 hB57 hfw hb6
  go_wp2_with fail
  obtain ⟨R, hR⟩ : ∃ R, R = w6.heap.size := ⟨_, rfl⟩
  obtain ⟨gd, hgd⟩ : ∃ gd, gd = w6.heap.size + 1 := ⟨_, rfl⟩
  rw [← hgd, ← hR] at HFW
  rw [← hgd, ← hR]
  generalize (w6.alloc (.cells #[.string rg.name, .int .u8 rg.lab.1, .int .u16 rg.lab.2, .int .i64 rg.bl, .int .i64 rg.no, .int .i64 rg.fr, .int .i64 rg.pr, .int .i64 rg.op, .int .i64 rg.cl] 43)).alloc (.map #[] 0) = w7 at *
  clear hR hgd hmm
  have hkk : k ≤ 63 := by omega
  go_loopw [42] (fun r wx => ∃ (i : Nat) (T : Nat → List TE) (last : Nat → Nat) (D : Nat → Option Nat), i ≤ n ∧ r = .int .i64 i ∧ FW w4.heap.size w3 wx g gm gt gd R (some ⟨cg, 0, none⟩) T last D rg ∧ FairI rg.pr (T k) (last k) D) (fun r _ => n - (intOf r).toNat)
  case atStart => exact ⟨0, _, _, _, Nat.zero_le _, rfl, HFW.out, FairI.start _⟩
  case round =>
    obtain ⟨i, T, last, D, hi, rfl, hfw, hfi⟩ := hrel
    have HFR := Lib.hid hfw
    have HFI := Lib.hid hfi
    clear hfw hfi
    by_cases hin : i < n
    · have f1 : (i : Int) < n := by omega
      obtain ⟨m, hok⟩ := HXX.out i hin
      obtain ⟨kd, la, num, to_, nn, raw, hcs, k0, k1, k2, k3, k4, k5⟩ := act25 hok
      rcases HS.out.cases with ⟨h, _⟩ | ⟨_, ga, o_, cz, hsl, _, _, hga, hca⟩
      · omega
      cases hsl
      have hbW : Below W.heap.size W wr := HB3.out.trans (HFR.out.bl.mono HB3.out.size)
      have hcell : ∀ j, j < 6 → wr.cell? ⟨ga, o_ + i * 6 + j, none⟩ = [Value.int .u8 kd, .int .u8 la, .int .u8 num, .int .u8 to_, .int .i32 nn, .bool raw][j]? := fun j hj => by
        rw [World.cell?_of_block (w := W) (a := ⟨ga, o_ + i * 6 + j, none⟩) (hbW.block ga hga), Nat.add_assoc, hca (i * 6 + j) (by omega), ← hcs, List.getElem?_take_of_lt hj, List.getElem?_drop]
      have d0 := hcell 0 (by omega)
      have d1 := hcell 1 (by omega)
      have d2 := hcell 2 (by omega)
      have d3 := hcell 3 (by omega)
      have d4 := hcell 4 (by omega)
      have d5 := hcell 5 (by omega)
      simp only [Nat.add_zero, List.getElem?_cons_zero, List.getElem?_cons_succ] at d0 d1 d2 d3 d4 d5
      clear hcell hca hbW hok hcs
      have hbA := bnew wr (.cells #[.int .u8 kd, .int .u8 la, .int .u8 num, .int .u8 to_, .int .i32 nn, .bool raw] 100)
      have cA := rowcell (heap_alloc_last wr (.cells #[.int .u8 kd, .int .u8 la, .int .u8 num, .int .u8 to_, .int .i32 nn, .bool raw] 100))
      have HFA := Lib.hid (HFR.out.keep hbA)
      have hlA := heap_alloc_last wr (.cells #[.int .u8 kd, .int .u8 la, .int .u8 num, .int .u8 to_, .int .i32 nn, .bool raw] 100)
      have HLA := Lib.hid hlA
      clear hbA hlA
      by_cases h150 : 150 < i
      · have f2 : (150 : Int) < i := by omega
        go_wp2_with fail
        go_ret
        exact ⟨rfl, HB3.out.trans (HFA.out.bl.mono HB3.out.size)⟩
      have f2 : ¬ ((150 : Int) < i) := by omega
      obtain ⟨m6, hm6⟩ : ∃ m, m = num % 6 := ⟨_, rfl⟩
      have hm65 : m6 < 6 := by omega
      have f3 : (num : Int) % 6 = m6 := by omega
      have f4 : IntKind.u8.wrap (1 + (m6 : Int)) = ((1 + m6 : Nat) : Int) := by simp [IntKind.wrap, IntKind.bits, IntKind.signed]; omega
      have f5 : IntKind.u8.wrap (k : Int) = k := by simp [IntKind.wrap, IntKind.bits, IntKind.signed]; omega
      have f6 : IntKind.u16.wrap ((1 + m6 : Nat) : Int) = ((1 + m6 : Nat) : Int) := by rw [IntKind.wrap_u16]; omega
      obtain ⟨N, hN⟩ : ∃ N, N = 1 + m6 := ⟨_, rfl⟩
      rw [← hN] at f4 f6
      have hN6 : 1 ≤ N ∧ N ≤ 6 := by omega
      clear hm6 hN
      go_upto_region 13 with fail
      have hbB := bnew (wr.alloc (.cells #[.int .u8 kd, .int .u8 la, .int .u8 num, .int .u8 to_, .int .i32 nn, .bool raw] 100)) (.cells #[.int .u8 k, .int .u16 N] 67)
      have hlP := heap_alloc_last (wr.alloc (.cells #[.int .u8 kd, .int .u8 la, .int .u8 num, .int .u8 to_, .int .i32 nn, .bool raw] 100)) (.cells #[.int .u8 k, .int .u16 N] 67)
      have hlM := bkeep hbB HLA.out
      rw [World.size_alloc] at hlP
      have HFB := Lib.hid (HFA.out.keep hbB)
      obtain ⟨M, hM⟩ : ∃ M, M = wr.heap.size := ⟨_, rfl⟩
      obtain ⟨P, hP⟩ : ∃ P, P = wr.heap.size + 1 := ⟨_, rfl⟩
      rw [← hM] at hlM
      rw [← hP] at hlP
      rw [← hP, ← hM]
      generalize (wr.alloc (.cells #[.int .u8 kd, .int .u8 la, .int .u8 num, .int .u8 to_, .int .i32 nn, .bool raw] 100)).alloc (.cells #[.int .u8 k, .int .u16 N] 67) = wB at *
      have HLM := Lib.hid hlM
      have HLP := Lib.hid hlP
      clear hbB hM hP cA d0 d1 d2 d3 d4 d5 f3 f4 f5 f6 HLA HFA
      have cM := rowcell hlM
      have hPS := HFB.out.tt.notS hlP (by decide) (by decide)
      have HPS := Lib.hid hPS
      clear hlM hlP hPS
      obtain ⟨kk, hkk6⟩ : ∃ kk, kk = kd % 6 := ⟨_, rfl⟩
      have hkv : (kd : Int) % 6 = kk := by omega
      have hkk5 : kk < 6 := by omega
      clear hkk6
      rcases (show kk = 0 ∨ kk = 1 ∨ kk = 2 ∨ kk = 3 ∨ 4 ≤ kk by omega) with h | h | h | h | h
      case' inl => have g0 : ((kk : Int) == 0) = true := by rw [beq_iff_eq]; omega
      case' inr.inl => have g0 : ((kk : Int) == 0) = false := by rw [beq_eq_false_iff_ne]; omega
      case' inr.inl => have g1 : ((kk : Int) == 1) = true := by rw [beq_iff_eq]; omega
      case' inr.inr.inl => have g0 : ((kk : Int) == 0) = false := by rw [beq_eq_false_iff_ne]; omega
      case' inr.inr.inl => have g1 : ((kk : Int) == 1) = false := by rw [beq_eq_false_iff_ne]; omega
      case' inr.inr.inl => have g2 : ((kk : Int) == 2) = true := by rw [beq_iff_eq]; omega
      case' inr.inr.inr.inl => have g0 : ((kk : Int) == 0) = false := by rw [beq_eq_false_iff_ne]; omega
      case' inr.inr.inr.inl => have g1 : ((kk : Int) == 1) = false := by rw [beq_eq_false_iff_ne]; omega
      case' inr.inr.inr.inl => have g2 : ((kk : Int) == 2) = false := by rw [beq_eq_false_iff_ne]; omega
      case' inr.inr.inr.inl => have g3 : ((kk : Int) == 3) = true := by rw [beq_iff_eq]; omega
      case' inr.inr.inr.inr => have g0 : ((kk : Int) == 0) = false := by rw [beq_eq_false_iff_ne]; omega
      case' inr.inr.inr.inr => have g1 : ((kk : Int) == 1) = false := by rw [beq_eq_false_iff_ne]; omega
      case' inr.inr.inr.inr => have g2 : ((kk : Int) == 2) = false := by rw [beq_eq_false_iff_ne]; omega
      case' inr.inr.inr.inr => have g3 : ((kk : Int) == 3) = false := by rw [beq_eq_false_iff_ne]; omega
      case inl =>
        clear h
        have hlenk := HFI.out.len
        by_cases hfull : (T k).length < rg.pr
        · obtain ⟨q, q1, q2, q3, q4⟩ := free_asc (T k) 0 HFI.out.asc (fun t ht => (HFI.out.num t ht).1)
          have hadd := taskAdd_ok HP.out HFB.out.bl HFB.out.tt (Nat.le_trans HFB.out.b0 HFB.out.b3) (Nat.le_trans HFB.out.b0 HFB.out.b4) HFB.out.b5 k q hkr hn64 0 (by rw [← HRG.out]; exact hfull) (by omega) (by omega) (by omega) (tF_no q3) (fun m h1 h2 => by
            obtain ⟨t, ht, e⟩ := q4 m (by omega) h2
            rw [← e, tF_at HFB.out.tt.ok ht]
            exact Option.some_ne_none _)
          have HADD := Lib.hid hadd
          have HQ := Lib.hid (show ∀ x, FairI rg.pr (insE (T k) ⟨x, newP k q 0 rs[k].cl⟩) (last k) D from fun x => HFI.out.add hfull (t := ⟨x, newP k q 0 rs[k].cl⟩) (by show 1 ≤ q; omega) (by show q ≤ _; omega) q3 ⟨rfl, rfl, .inl rfl, ⟨Nat.zero_le _, Nat.zero_le _, Nat.zero_le _, Nat.zero_le _⟩⟩)
          clear hadd q1 q2 q3 q4
          go_wp2_with fail
          refine HADD.out.mono ?_
          rintro e w8 ⟨x, rfl, hx8, ht8, hd8⟩
          have HF8 := Lib.hid (HFB.out.tab (Chg.of_duo (S := tS g gm T) hd8 (.inl rfl) (.inr (.inl rfl))) ht8)
          have HI8 := Lib.hid (show FairI rg.pr (setT T k (insE (T k) ⟨x, newP k q 0 rs[k].cl⟩) k) (last k) D by rw [setT_same]; exact HQ.out x)
          clear ht8 hd8 cM
          go_wp2_with fail
          go_roundw
          case rel => exact ⟨i + 1, _, _, _, by omega, by go_num, HF8.out, HI8.out⟩
          case measure => simp [intOf]; omega
        · have hadd := taskAdd_no HP.out HFB.out.bl HFB.out.tt k hkr hn64 0 (by rw [← HRG.out]; omega)
          have HADD := Lib.hid hadd
          clear hadd
          go_wp2_with fail
          refine HADD.out.mono ?_
          rintro e w8 ⟨rfl, hb8⟩
          have HF8 := Lib.hid (HFB.out.keep hb8)
          clear hb8 cM
          go_wp2_with fail
          go_roundw
          case rel => exact ⟨i + 1, _, _, _, by omega, by go_num, HF8.out, HFI.out⟩
          case measure => simp [intOf]; omega
      case inr.inl =>
        clear h
        by_cases h3 : num % 3 = 0
        · have g5 : ((num : Int) % 3 == 0) = true := by rw [beq_iff_eq]; omega
          have cP := rowcell HLP.out
          have hend : ∃ T' : Nat → List TE, T' k = dropE (T k) N ∧ Calls Try.prog 31 #[.pointer (some ⟨g, 0, none⟩), .agg #[.int .u8 k, .int .u16 N], .int .i32 0] wB fun e w' => e = .returned (.tuple #[]) ∧ TT w4.heap.size w' g gm (some ⟨cg, 0, none⟩) T' ∧ Chg (tS g gm T) wB w' := by
            cases hf : tF T (k, N) with
            | none =>
              have hno := tF_none hf
              refine ⟨T, (List.filter_eq_self.2 (fun t ht => by have := hno t ht; simpa using this)).symm, ?_⟩
              refine (taskEnd_no HFB.out.tt k N (by omega) (by omega) 0 (fun t ht e => absurd e (hno t ht))).mono ?_
              rintro e w' ⟨he, hb⟩
              exact ⟨he, HFB.out.tt.keep hb, Chg.of_below _ hb⟩
            | some x =>
              obtain ⟨j, hj, h1, h2⟩ := tF_get HFB.out.tt.ok hf
              obtain ⟨t, ht⟩ : ∃ t, (T k)[j] = t := ⟨_, rfl⟩
              rw [ht] at h1
              have hmem : t ∈ T k := by rw [← ht]; exact List.getElem_mem hj
              have hfl := HFI.out.flat t hmem
              refine ⟨setT T k (endL (T k) j N 0 t), by rw [setT_same]; unfold endL; rw [if_pos hfl.1], ?_⟩
              have he := taskEnd_in HFB.out.tt (l := k) (by omega) hj ht N h1.symm 0 (by rcases hfl.2.2.1 with e | e <;> omega) (by
                unfold kidsL
                rw [List.filter_eq_nil_iff]
                intro s hs
                have := (HFI.out.flat s hs).1
                unfold kidB
                rw [this, decide_eq_false (by omega)]
                simp) (by rw [hfl.1]; omega) (fun s hs e => absurd (HFI.out.num s hs).1 (by rw [e, hfl.1]; omega)) (fun _ => False) (fun _ => True) (fun _ h => h.elim) (fun _ _ h => h) (fun _ _ _ _ => trivial) (fun w1 _ => by
                rw [hfl.2.1]
                refine (spaceFree_nil w1).mono ?_
                rintro e w2 ⟨he, rfl⟩
                exact ⟨he, Chg.refl _ _, trivial⟩)
              refine he.mono ?_
              rintro e w' ⟨he, ht', hc', _⟩
              exact ⟨he, ht', hc'.mono (fun k _ h => h.resolve_left (fun h => h))⟩
          obtain ⟨T', hT', hend'⟩ := hend
          have HEND := Lib.hid hend'
          have HT' := Lib.hid hT'
          clear h3 hend' hT'
          go_wp2_with fail
          refine HEND.out.mono ?_
          rintro e w8 ⟨rfl, ht8, hc8⟩
          have HF8 := Lib.hid (HFB.out.tab hc8 ht8)
          have hlP8 := hc8.blk HLP.out HPS.out
          clear ht8 hc8 cM cP
          have cP := rowcell hlP8
          clear hlP8
          obtain ⟨lk, hkey⟩ := key_u16 N (by omega)
          go_wp2_with (with_reducible refine wpList_stop none rfl ?_)
          refine Lib.hid ?_
          refine wpList_delete_mk (by kernel_rfl) none rfl HF8.out.mp keyedU16 u16V_inj Try.underlying98 _ _ rfl (by go_simp) N (by go_simp; try rfl) hkey ?_
          intro w9 hm9 ho9
          have HF9 := Lib.hid (HF8.out.map ho9 hm9)
          have HI9 := Lib.hid (show FairI rg.pr (T' k) (last k) (delF D N) by rw [HT'.out]; exact HFI.out.drop N)
          clear hm9 ho9 hkey cP
          go_wp2_with fail
          go_roundw
          case rel => exact ⟨i + 1, _, _, _, by omega, by go_num, HF9.out, HI9.out⟩
          case measure => simp [intOf]; omega
        · have g5 : ((num : Int) % 3 == 0) = false := by rw [beq_eq_false_iff_ne]; omega
          clear h3
          go_wp2_with fail
          go_roundw
          case rel => exact ⟨i + 1, _, _, _, by omega, by go_num, HFB.out, HFI.out⟩
          case measure => simp [intOf]; omega
      case inr.inr.inl =>
        clear h
        have hsl := taskSleep_in HFB.out.tt k N (by omega) (by omega) ⟨3, false, 0, 0, 0⟩ ⟨by decide, by decide, by decide, by decide⟩ 0
        unfold rsA at hsl
        have HSL := Lib.hid hsl
        have cP := rowcell HLP.out
        clear hsl
        go_wp2_with fail
        refine HSL.out.mono ?_
        rintro e w8 ⟨rfl, ht8, hc8⟩
        have HF8 := Lib.hid (HFB.out.tab hc8 ht8)
        have HI8 := Lib.hid (HFI.out.sleep N 0 ⟨3, false, 0, 0, 0⟩ ⟨by decide, by decide, by decide, by decide⟩)
        have hlP8 := hc8.blk HLP.out HPS.out
        clear ht8 hc8 cM cP
        have cP := rowcell hlP8
        clear hlP8
        obtain ⟨lk, hkey⟩ := key_u16 N (by omega)
        go_wp2_with (with_reducible refine wpList_stop none rfl ?_)
        refine Lib.hid ?_
        refine wpList_delete_mk (by kernel_rfl) none rfl HF8.out.mp keyedU16 u16V_inj Try.underlying98 _ _ rfl (by go_simp) N (by go_simp; try rfl) hkey ?_
        intro w9 hm9 ho9
        have HF9 := Lib.hid (HF8.out.map ho9 hm9)
        have HI9 := Lib.hid (show FairI rg.pr (setT T k ((T k).map (updE (fun p => decide (p.st = 1)) (sleepP ⟨3, false, 0, 0, 0⟩ 0) N)) k) (last k) (delF D N) by rw [setT_same]; exact HI8.out)
        clear hm9 ho9 hkey cP
        go_wp2_with fail
        go_roundw
        case rel => exact ⟨i + 1, _, _, _, by omega, by go_num, HF9.out, HI9.out⟩
        case measure => simp [intOf]; omega
      case inr.inr.inr.inl =>
        clear h
        have hwk := taskWake_in HFB.out.tt k (by omega) ⟨3, false, 0, 0, 0⟩ ⟨by decide, by decide, by decide, by decide⟩ (fun t ht => (HFI.out.flat t ht).2.2.2)
        unfold rsA at hwk
        have HWK := Lib.hid hwk
        clear hwk
        go_wp2_with fail
        refine HWK.out.mono ?_
        rintro e w8 ⟨rfl, ht8, hc8⟩
        have HF8 := Lib.hid (HFB.out.tab hc8 ht8)
        have HI8 := Lib.hid (show FairI rg.pr (setT T k ((T k).map (wakeE (rsB ⟨3, false, 0, 0, 0⟩))) k) (last k) D by rw [setT_same]; exact HFI.out.wake _)
        clear ht8 hc8 cM
        go_wp2_with fail
        go_roundw
        case rel => exact ⟨i + 1, _, _, _, by omega, by go_num, HF8.out, HI8.out⟩
        case measure => simp [intOf]; omega
      case inr.inr.inr.inr =>
        clear h
        have hpk := turnPick_in HFB.out.tt HFB.out.tu k (by omega)
        have HPK := Lib.hid hpk
        clear hpk
        go_wp2_with fail
        refine HPK.out.mono ?_
        rintro e w8 ⟨rfl, ht8, hu8, hc8⟩
        cases hp : pickL (T k) (last k) with
        | none =>
          have hl8 : pickLast (T k) last k = last := by unfold pickLast; rw [hp]
          rw [hl8] at hu8
          have HF8 := Lib.hid (HFB.out.pick hc8 ht8 hu8)
          have HNR := Lib.hid (pick_none hp)
          clear ht8 hu8 hc8 hp hl8 cM
          simp only [ptrO, Option.map_none]
          go_wp2_with fail
          refine (taskList_in HF8.out.tt k (by omega)).mono ?_
          rintro e w9 ⟨v, rfl, hlv, hb9⟩
          obtain ⟨ad, cv, hv⟩ := LV.form (L := T k) hlv
          have HLV := Lib.hid (show LV w9 w8.heap.size v (T k) from hlv)
          have HF9 := Lib.hid (HF8.out.keep hb9)
          obtain ⟨mm, hmm⟩ : ∃ m, m = (T k).length := ⟨_, rfl⟩
          rw [← hmm] at hv
          have hmm1000 : mm ≤ 1000 := by rw [hmm]; exact HF8.out.tt.len k
          have HMM := Lib.hid hmm
          subst hv
          clear hlv hb9 hmm
          go_wp2_with fail
          obtain ⟨wo, hwo⟩ : ∃ wo, wo = wr := ⟨_, rfl⟩
          subst hwo
          go_loopw [68] (fun r wx => ∃ j : Nat, j ≤ mm ∧ r = .int .i64 j ∧ wx = w9) (fun r _ => mm - (intOf r).toNat)
          case atStart => exact ⟨0, Nat.zero_le _, rfl, rfl⟩
          case round =>
            obtain ⟨j, hj, rfl, rfl⟩ := hrel
            by_cases hjn : j < mm
            · have q1 : (j : Int) < mm := by omega
              have hjT : j < (T k).length := by rw [← HMM.out]; exact hjn
              obtain ⟨q, off, c2, hs, hq, hcell⟩ := HLV.out.cell hjT
              have hcc : ad = some ⟨q, off, none⟩ := by
                simp only [Value.slice.injEq] at hs
                exact hs.1
              subst hcc
              obtain ⟨t, ht⟩ : ∃ t, t = (T k)[j] := ⟨_, rfl⟩
              rw [← ht] at hcell
              have hmem : t ∈ T k := by rw [ht]; exact List.getElem_mem hjT
              have hrow := HF9.out.tt.pr _ _ hmem
              have e5 : wr.cell? ⟨t.blk, 5, none⟩ = some (.int .u8 t.pr.st) := hrow.cell (i := 5) (by omega)
              have g5 : ((t.pr.st : Int) == 1) = false := by rw [beq_eq_false_iff_ne]; have := HNR.out t hmem; omega
              clear hs hq ht hmem hrow
              go_wp2_with fail
              go_roundw
              case rel => exact ⟨j + 1, by omega, by go_num, trivial⟩
              case measure => simp [intOf]; omega
            · obtain rfl : j = mm := by omega
              have q1 : ¬ ((j : Int) < j) := by omega
              go_wp2_with fail
              go_roundw
              case rel => exact ⟨i + 1, _, _, _, by omega, by go_num, HF9.out, HFI.out⟩
              case measure => simp [intOf]; omega
        | some p =>
          have hl8 : pickLast (T k) last k = setN last k p.pr.num := by unfold pickLast; rw [hp]
          rw [hl8] at hu8
          have HF8 := Lib.hid (HFB.out.pick hc8 ht8 hu8)
          have HPP := Lib.hid hp
          have hpm := pick_mem hp
          have HPM := Lib.hid hpm.1
          have hpn := HFI.out.num p hpm.1
          clear ht8 hu8 hc8 hp hl8 cM hpm
          simp only [ptrO, Option.map_some]
          go_wp2_with fail
          refine (taskList_in HF8.out.tt k (by omega)).mono ?_
          rintro e w9 ⟨v, rfl, hlv, hb9⟩
          obtain ⟨ad, cv, hv⟩ := LV.form (L := T k) hlv
          have HLV := Lib.hid (show LV w9 w8.heap.size v (T k) from hlv)
          have HF9 := Lib.hid (HF8.out.keep hb9)
          obtain ⟨mm, hmm⟩ : ∃ m, m = (T k).length := ⟨_, rfl⟩
          rw [← hmm] at hv
          have hmm1000 : mm ≤ 1000 := by rw [hmm]; exact HF8.out.tt.len k
          have HMM := Lib.hid hmm
          have HGD := Lib.hid (show gd < w8.heap.size from HF8.out.mp.lt)
          subst hv
          clear hlv hb9 hmm
          go_wp2_with fail
          obtain ⟨wo, hwo⟩ : ∃ wo, wo = wr := ⟨_, rfl⟩
          subst hwo
          go_loopw [68] (fun r wx => ∃ (j : Nat) (Dj : Nat → Option Nat), j ≤ mm ∧ r = .int .i64 j ∧ FW w4.heap.size w3 wx g gm gt gd R (some ⟨cg, 0, none⟩) T (setN last k p.pr.num) Dj rg ∧ LV wx w8.heap.size (.slice ad mm cv) (T k) ∧ cntI D Dj (T k) p.pr.num j) (fun r _ => mm - (intOf r).toNat)
          case atStart => exact ⟨0, D, Nat.zero_le _, rfl, HF9.out, HLV.out, cntI.start _ _ _⟩
          case round =>
            obtain ⟨j, Dj, hj, rfl, hfj, hlj, hcj⟩ := hrel
            have HFJ := Lib.hid hfj
            have HLJ := Lib.hid hlj
            have HCJ := Lib.hid hcj
            clear hfj hlj hcj
            by_cases hjn : j < mm
            · have q1 : (j : Int) < mm := by omega
              have hjT : j < (T k).length := by rw [← HMM.out]; exact hjn
              obtain ⟨q, off, c2, hs, hq, hcell⟩ := HLJ.out.cell hjT
              have hcc : ad = some ⟨q, off, none⟩ := by
                simp only [Value.slice.injEq] at hs
                exact hs.1
              subst hcc
              obtain ⟨t, ht⟩ : ∃ t, t = (T k)[j] := ⟨_, rfl⟩
              rw [← ht] at hcell
              have hmem : t ∈ T k := by rw [ht]; exact List.getElem_mem hjT
              have hrow := HFJ.out.tt.pr _ _ hmem
              have hrowp := HFJ.out.tt.pr _ _ HPM.out
              have e5 : wr.cell? ⟨t.blk, 5, none⟩ = some (.int .u8 t.pr.st) := hrow.cell (i := 5) (by omega)
              have HTT := Lib.hid ht
              have HMT := Lib.hid hmem
              have HRT := Lib.hid (rowIs_arr hrow)
              have HRP := Lib.hid (rowIs_arr hrowp)
              have HROW := Lib.hid hrow
              have hnt := HFI.out.num t hmem
              clear hs hq ht hmem hrow hrowp
              by_cases hst : t.pr.st = 1
              · have g5 : ((t.pr.st : Int) == 1) = true := by rw [beq_iff_eq]; omega
                by_cases htp : t.pr.num = p.pr.num
                · have he : t = p := asc_inj HFI.out.asc HMT.out HPM.out htp
                  have hcn := HCJ.out.skip hjT (fun _ => by rw [← HTT.out]; exact htp)
                  have HCN := Lib.hid hcn
                  subst he
                  have hne := fun w => neqProc_same t.blk w
                  clear hst htp hcn
                  go_wp2_with fail
                  go_roundw
                  case rel => exact ⟨j + 1, Dj, by omega, by go_num, HFJ.out, HLJ.out, HCN.out⟩
                  case measure => simp [intOf]; omega
                · have hbl : t.blk ≠ p.blk := fun e => htp (by rw [(HFJ.out.tt.inj HMT.out HPM.out e).2])
                  have hne := neqProc_other hbl wr HRT.out HRP.out
                  obtain ⟨hc0, hcn⟩ := HCJ.out.put HFI.out.asc hjT (by rw [← HTT.out]; exact hst) (by rw [← HTT.out]; exact htp)
                  rw [← HTT.out] at hc0 hcn
                  obtain ⟨c, hc⟩ : ∃ c, c = (Dj t.pr.num).getD 0 := ⟨_, rfl⟩
                  rw [← hc] at hc0 hcn
                  have hah := pick_ahead HFI.out.asc HFI.out.num HFI.out.last HPP.out HMT.out hst htp
                  have hyes := HFI.out.yes t.pr.num ⟨t, HMT.out, rfl, hst⟩
                  have hcpr : c + 1 < rg.pr := by omega
                  have e1 : wr.cell? ⟨t.blk, 1, none⟩ = some (.int .u16 t.pr.num) := HROW.out.cell (i := 1) (by omega)
                  have HC := Lib.hid hc
                  have HCN := Lib.hid hcn
                  obtain ⟨lk, hkey⟩ := key_u16 t.pr.num (by omega)
                  have HKEY := Lib.hid hkey
                  have hw1 : IntKind.i64.wrap ((c : Int) + 1) = (c : Int) + 1 := by rw [IntKind.wrap_i64]; omega
                  clear hst htp hc0 hc hcn hah hyes hkey hbl
                  go_wp2_with (with_reducible refine wpList_stop (some 88) rfl ?_)
                  refine Lib.hid ?_
                  refine wpList_lookup_mk (by kernel_rfl) (some 88) rfl HFJ.out.mp keyedU16 u16V_inj Try.underlying98 intZ _ _ false rfl (by go_simp) t.pr.num (by go_simp; try rfl) HKEY.out (.int .i64 c) (by rw [lk_int, ← HC.out]) ?_
                  go_wp2_with (with_reducible refine wpList_stop none rfl ?_)
                  refine Lib.hid ?_
                  refine wpList_update_mk (by kernel_rfl) rfl HFJ.out.mp keyedU16 u16V_inj Try.underlying98 _ _ _ rfl (by go_simp) t.pr.num (by go_simp; try rfl) HKEY.out (c + 1) (by go_simp; rfl) ?_
                  intro w10 hm10 ho10
                  have HF10 := Lib.hid (HFJ.out.map ho10 hm10)
                  have HL10 := Lib.hid (HLJ.out.chg (Chg.of_one (S := fun k => k = gd) ho10 rfl) (fun k hk => by rw [hk]; exact HGD.out))
                  clear hm10 ho10 e1 e5 hcell hne hw1
                  have e1 : w10.cell? ⟨t.blk, 1, none⟩ = some (.int .u16 t.pr.num) := (HF10.out.tt.pr _ _ HMT.out).cell (i := 1) (by omega)
                  have cR := rowcell HF10.out.rr
                  unfold regArr at cR
                  have hge : decide ((rg.pr : Int) ≤ (c : Int) + 1) = false := decide_eq_false (by omega)
                  have hge2 : ¬ ((rg.pr : Int) ≤ (c : Int) + 1) := by omega
                  have hge3 : ¬ (rg.pr ≤ c + 1) := by omega
                  go_wp2_with fail
                  refine wp_region_still_tail 9 (by kernel_rfl) (by kernel_rfl) ?_
                  simp only [List.take_succ_cons, List.take_zero, List.drop_succ_cons, List.drop_zero]
                  change wpStill _ _ (World.drew w10) _ _ _
                  iterate 6 still_step
                  refine still_lookup (by kernel_rfl) (some 96) rfl (HF10.out.keep (drewb w10)).mp keyedU16 u16V_inj Try.underlying98 intZ _ _ false rfl (by go_simp) t.pr.num (by go_simp; try rfl) HKEY.out (.int .i64 ((c + 1 : Nat) : Int)) (by rw [lk_int]; unfold putF; rw [if_pos rfl]; rfl) ?_
                  iterate 2 still_step
                  refine wpStill_nil ?_
                  change wpList _ _ _ _ _ (World.drew w10)
                  have HF11 := Lib.hid (HF10.out.keep (drewb w10))
                  have HL11 := Lib.hid (HL10.out.keep (drewb w10))
                  clear e1 cR
                  go_wp2_with fail
                  go_roundw
                  case rel => exact ⟨j + 1, _, by omega, by go_num, HF11.out, HL11.out, HCN.out⟩
                  case measure => simp [intOf]; omega
              · have g5 : ((t.pr.st : Int) == 1) = false := by rw [beq_eq_false_iff_ne]; omega
                have hcn := HCJ.out.skip hjT (fun h => absurd h (by rw [← HTT.out]; exact hst))
                have HCN := Lib.hid hcn
                clear hst hcn
                go_wp2_with fail
                go_roundw
                case rel => exact ⟨j + 1, Dj, by omega, by go_num, HFJ.out, HLJ.out, HCN.out⟩
                case measure => simp [intOf]; omega
            · obtain rfl : j = mm := by omega
              have q1 : ¬ ((j : Int) < j) := by omega
              have hrowp := HFJ.out.tt.pr _ _ HPM.out
              have e1 : wr.cell? ⟨p.blk, 1, none⟩ = some (.int .u16 p.pr.num) := hrowp.cell (i := 1) (by omega)
              have hc := HCJ.out
              rw [HMM.out] at hc
              have HIP := Lib.hid (show FairI rg.pr (T k) (setN last k p.pr.num k) (delF Dj p.pr.num) by rw [setN_same]; exact HFI.out.pick HPP.out hc)
              obtain ⟨lk, hkey⟩ := key_u16 p.pr.num (by omega)
              clear hrowp hc
              go_wp2_with (with_reducible refine wpList_stop none rfl ?_)
              refine Lib.hid ?_
              refine wpList_delete_mk (by kernel_rfl) none rfl HFJ.out.mp keyedU16 u16V_inj Try.underlying98 _ _ rfl (by go_simp) p.pr.num (by go_simp; try rfl) hkey ?_
              intro w10 hm10 ho10
              have HF10 := Lib.hid (HFJ.out.map ho10 hm10)
              clear hm10 ho10 hkey e1
              go_wp2_with fail
              go_roundw
              case rel => exact ⟨i + 1, _, _, _, by omega, by go_num, HF10.out, HIP.out⟩
              case measure => simp [intOf]; omega
    · obtain rfl : i = n := by omega
      have f1 : ¬ ((i : Int) < i) := by omega
      go_wp2_with fail
      go_ret
      exact ⟨rfl, HB3.out.trans (HFR.out.bl.mono HB3.out.size)⟩
end Go.Proofs.Ytiedenjcmkebaaa
