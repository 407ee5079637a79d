/- Nodes: what they are; Blank, Check. -/
import Derived.Test.YtonfnlohbgbffaaNodC
set_option linter.unusedVariables false
set_option linter.unusedSimpArgs false
namespace Go.Proofs.Ytonfnlohbgbffaa
open Go.RowKit

/-- A node. -/
structure NodL where
  kd : Nat
  lk : Nat
  gn : Nat
  sz : Nat
  d0 : Nat
  d1 : Nat
  d2 : Nat
  d3 : Nat
  d4 : Nat
  d5 : Nat
  sg : Nat
  db : Nat
deriving DecidableEq
structure NodL.ok (n : NodL) : Prop where
  kd : n.kd ≤ 255
  lk : n.lk ≤ 255
  gn : n.gn ≤ 65535
  sz : n.sz < 4294967296
  d0 : n.d0 ≤ 65535
  d1 : n.d1 ≤ 65535
  d2 : n.d2 ≤ 65535
  d3 : n.d3 ≤ 65535
  d4 : n.d4 ≤ 65535
  d5 : n.d5 ≤ 65535
  sg : n.sg ≤ 65535
  db : n.db ≤ 65535
def nodA (n : NodL) : Array Value := #[.int .u8 n.kd, .int .u8 n.lk, .int .u16 n.gn, .int .u32 n.sz, .int .u16 n.d0, .int .u16 n.d1, .int .u16 n.d2, .int .u16 n.d3, .int .u16 n.d4, .int .u16 n.d5, .int .u16 n.sg, .int .u16 n.db]
def NodL.blank (n : NodL) : NodL := ⟨0, 0, n.gn, 0, 0, 0, 0, 0, 0, 0, 0, 0⟩
def NodL.right (n : NodL) : Bool :=
  if n.kd = 0 then decide (n = n.blank) else
  decide (n.lk ≠ 0) && decide (n.sz ≤ 16384) && (if n.kd = 1 then true else if n.kd = 2 then decide (n.sz % 16 = 0) else if n.kd = 3 then decide (n.sz = 0) else if n.kd = 5 then decide (n.sz = 0) else if n.kd = 4 then decide (1 ≤ n.sz) && decide (n.sz ≤ 60) else false)
theorem NodL.ok.blank {n : NodL} (h : n.ok) : n.blank.ok := ⟨by simp [NodL.blank], by simp [NodL.blank], h.gn, by simp [NodL.blank], by simp [NodL.blank], by simp [NodL.blank], by simp [NodL.blank], by simp [NodL.blank], by simp [NodL.blank], by simp [NodL.blank], by simp [NodL.blank], by simp [NodL.blank]⟩
theorem eqNode (r s : NodL) (hr : r.ok) (hs : s.ok) (w : World) : (Op.equalIn 10000 27 (.agg (nodA r)) (.agg (nodA s))).run Try.prog w = .ok (decide (r = s)) w := by
  have zN : Try.prog.cellsOf 27 = 12 := by kernel_rfl
  have zK : Try.prog.cellsOf 22 = 1 := by kernel_rfl
  have z8 : Try.prog.cellsOf 5 = 1 := by kernel_rfl
  have z16 : Try.prog.cellsOf 23 = 1 := by kernel_rfl
  have z32 : Try.prog.cellsOf 24 = 1 := by kernel_rfl
  have z6 : Try.prog.cellsOf 25 = 6 := by kernel_rfl
  have e8 : ∀ d (x : Nat), x ≤ 255 → Try.prog.keyLits (d + 1) 5 [.int .u8 (x : Int)] = some [.int .u8 x] := fun d x hx => by
    simp [Program.keyLits, Try.underlying5, show (Lit.int .u8 (x : Int)).wf = true by simp [Lit.wf, IntKind.min, IntKind.max, IntKind.bits, IntKind.signed]; omega]
  have eK : ∀ d (x : Nat), x ≤ 255 → Try.prog.keyLits (d + 1) 22 [.int .u8 (x : Int)] = some [.int .u8 x] := fun d x hx => by
    simp [Program.keyLits, Try.underlying22, show (Lit.int .u8 (x : Int)).wf = true by simp [Lit.wf, IntKind.min, IntKind.max, IntKind.bits, IntKind.signed]; omega]
  have e16 : ∀ d (x : Nat), x ≤ 65535 → Try.prog.keyLits (d + 1) 23 [.int .u16 (x : Int)] = some [.int .u16 x] := fun d x hx => by
    simp [Program.keyLits, Try.underlying23, show (Lit.int .u16 (x : Int)).wf = true by simp [Lit.wf, IntKind.min, IntKind.max, IntKind.bits, IntKind.signed]; omega]
  have e32 : ∀ d (x : Nat), x < 4294967296 → Try.prog.keyLits (d + 1) 24 [.int .u32 (x : Int)] = some [.int .u32 x] := fun d x hx => by
    simp [Program.keyLits, Try.underlying24, show (Lit.int .u32 (x : Int)).wf = true by simp [Lit.wf, IntKind.min, IntKind.max, IntKind.bits, IntKind.signed]; omega]
  have e6 : ∀ d (a b c x y z : Nat), a ≤ 65535 → b ≤ 65535 → c ≤ 65535 → x ≤ 65535 → y ≤ 65535 → z ≤ 65535 → Try.prog.keyLits (d + 2) 25 [.int .u16 (a : Int), .int .u16 (b : Int), .int .u16 (c : Int), .int .u16 (x : Int), .int .u16 (y : Int), .int .u16 (z : Int)] =
      some [.int .u16 a, .int .u16 b, .int .u16 c, .int .u16 x, .int .u16 y, .int .u16 z] := by
    intro d a b c x y z ha hb hc hx hy hz
    unfold Program.keyLits
    simp [Try.underlying25, z16, z6, e16 d _ ha, e16 d _ hb, e16 d _ hc, e16 d _ hx, e16 d _ hy, e16 d _ hz, show List.range 6 = [0, 1, 2, 3, 4, 5] from rfl]
  have key : ∀ r : NodL, r.ok → Try.prog.keyLits 3 27 (nodA r).toList = some [.int .u8 r.kd, .int .u8 r.lk, .int .u16 r.gn, .int .u32 r.sz, .int .u16 r.d0, .int .u16 r.d1, .int .u16 r.d2, .int .u16 r.d3, .int .u16 r.d4, .int .u16 r.d5, .int .u16 r.sg, .int .u16 r.db] := fun r h => by
    unfold Program.keyLits nodA
    simp [Try.underlying27, zN, zK, z8, z16, z32, z6, eK 1 _ h.kd, e8 1 _ h.lk, e16 1 _ h.gn, e32 1 _ h.sz, e6 0 _ _ _ _ _ _ h.d0 h.d1 h.d2 h.d3 h.d4 h.d5, e16 1 _ h.sg, e16 1 _ h.db]
  have formed : ∀ r : NodL, (Value.agg (nodA r)).formed Try.prog 27 = true := fun r => by
    simp [Value.formed, Try.underlying27, zN, nodA]
  refine equal_key 3 (by omega) (by kernel_rfl) (formed r) (formed s) (key r hr) (key s hs) ?_
  cases r; cases s
  simp [NodL.mk.injEq]
  constructor
  · rintro ⟨h1, h2, h3, h4, h5, h6, h7, h8, h9, h10, h11, h12⟩
    exact ⟨by omega, by omega, by omega, by omega, by omega, by omega, by omega, by omega, by omega, by omega, by omega, by omega⟩
  · rintro ⟨h1, h2, h3, h4, h5, h6, h7, h8, h9, h10, h11, h12⟩
    exact ⟨by omega, by omega, by omega, by omega, by omega, by omega, by omega, by omega, by omega, by omega, by omega, by omega⟩

set_option maxRecDepth 20000 in
set_option maxHeartbeats 4000000 in
theorem nodeBlank_in (n : NodL) (ho : n.ok) (w : World) : Calls Try.prog 21 #[.agg (nodA n)] w fun e w' => e = .returned (.bool (decide (n = n.blank))) ∧ Below w.heap.size w w' := by
  have heq0 := eqNode n n.blank ho ho.blank
  have hb1 := bnew w (.cells (nodA n) 27)
  have cc := rowcell (heap_alloc_last w (.cells (nodA n) 27))
  obtain ⟨b, hb⟩ : ∃ b, b = decide (n = n.blank) := ⟨_, rfl⟩
  rw [← hb] at heq0 ⊢
  clear hb ho
  obtain ⟨kd, lk, gn, sz, d0, d1, d2, d3, d4, d5, sg, db⟩ := n
  unfold nodA NodL.blank at *
  have heq : ∀ w, (Op.equalIn 10000 27 (.agg #[.int .u8 kd, .int .u8 lk, .int .u16 gn, .int .u32 sz, .int .u16 d0, .int .u16 d1, .int .u16 d2, .int .u16 d3, .int .u16 d4, .int .u16 d5, .int .u16 sg, .int .u16 db]) (.agg #[.int .u8 0, .int .u8 0, .int .u16 gn, .int .u32 0, .int .u16 0, .int .u16 0, .int .u16 0, .int .u16 0, .int .u16 0, .int .u16 0, .int .u16 0, .int .u16 0])).run Try.prog w = .ok b w := fun w => heq0 w
  clear heq0
  have HB := Lib.hid hb1
  clear hb1
  go_enter Try.func21, Try.ntmps21
  go_wp2_with fail
  go_ret
  exact ⟨rfl, HB.out⟩

set_option maxRecDepth 20000 in
set_option maxHeartbeats 4000000 in
theorem nodeCheck_in (n : NodL) (ho : n.ok) (w : World) : Calls Try.prog 20 #[.agg (nodA n)] w fun e w' => e = .returned (.int .i64 (if n.right then 0 else 28)) ∧ Below w.heap.size w w' := by
  have hbl := fun w => nodeBlank_in n ho w
  have hb1 := bnew w (.cells (nodA n) 27)
  have cc := rowcell (heap_alloc_last w (.cells (nodA n) 27))
  clear ho
  obtain ⟨kd, lk, gn, sz, d0, d1, d2, d3, d4, d5, sg, db⟩ := n
  unfold nodA at *
  have HBL := Lib.hid hbl
  have HB := Lib.hid hb1
  clear hb1 hbl
  obtain ⟨r, hr⟩ : ∃ r, r = sz % 16 := ⟨_, rfl⟩
  have f4 : (sz : Int) % 16 = r := by omega
  have f5 : (sz : Int).tmod 16 = r := by rw [Int.tmod_eq_emod_of_nonneg (by omega)]; omega
  go_enter Try.func20, Try.ntmps20
  rcases (show kd = 0 ∨ 5 < kd ∨ kd = 1 ∨ kd = 2 ∨ kd = 3 ∨ kd = 4 ∨ kd = 5 by omega) with rfl | hk | rfl | rfl | rfl | rfl | rfl
  · clear hr f4 f5
    have hv : NodL.right ⟨0, lk, gn, sz, d0, d1, d2, d3, d4, d5, sg, db⟩ = decide ((⟨0, lk, gn, sz, d0, d1, d2, d3, d4, d5, sg, db⟩ : NodL) = NodL.blank ⟨0, lk, gn, sz, d0, d1, d2, d3, d4, d5, sg, db⟩) := if_pos rfl
    rw [hv]
    clear hv
    have HBL0 := Lib.hid (HBL.out)
    obtain ⟨b, hb⟩ : ∃ b, b = decide ((⟨0, lk, gn, sz, d0, d1, d2, d3, d4, d5, sg, db⟩ : NodL) = NodL.blank ⟨0, lk, gn, sz, d0, d1, d2, d3, d4, d5, sg, db⟩) := ⟨_, rfl⟩
    have HBL1 := Lib.hid (show ∀ w, Calls Try.prog 21 #[.agg #[.int .u8 0, .int .u8 lk, .int .u16 gn, .int .u32 sz, .int .u16 d0, .int .u16 d1, .int .u16 d2, .int .u16 d3, .int .u16 d4, .int .u16 d5, .int .u16 sg, .int .u16 db]] w fun e w' => e = .returned (.bool b) ∧ Below w.heap.size w w' by rw [hb]; exact HBL.out)
    rw [← hb]
    clear hb HBL HBL0
    go_wp2_with fail
    refine (HBL1.out _).mono ?_
    rintro e w1 ⟨rfl, hb1⟩
    have HB1 := Lib.hid (HB.out.trans (hb1.mono HB.out.size))
    clear hb1
    cases b with
    | true =>
      go_wp2_with fail
      go_ret
      exact ⟨rfl, HB1.out⟩
    | false =>
      go_wp2_with fail
      go_ret
      exact ⟨rfl, HB1.out⟩
  · have a0 : ((kd : Int) == 0) = false := by rw [beq_eq_false_iff_ne]; omega
    have a1 : ((kd : Int) == 1) = false := by rw [beq_eq_false_iff_ne]; omega
    have a2 : ((kd : Int) == 2) = false := by rw [beq_eq_false_iff_ne]; omega
    have a3 : ((kd : Int) == 3) = false := by rw [beq_eq_false_iff_ne]; omega
    have a4 : ((kd : Int) == 4) = false := by rw [beq_eq_false_iff_ne]; omega
    have a5 : ((kd : Int) == 5) = false := by rw [beq_eq_false_iff_ne]; omega
    have hv : NodL.right ⟨kd, lk, gn, sz, d0, d1, d2, d3, d4, d5, sg, db⟩ = false := by
      unfold NodL.right
      simp only
      rw [if_neg (by omega), if_neg (by omega), if_neg (by omega), if_neg (by omega), if_neg (by omega), if_neg (by omega), Bool.and_false]
    rw [hv]
    clear hv hr f4 f5
    go_wp2_with fail
    go_ret
    exact ⟨rfl, HB.out⟩
  --ARMS
  · -- kind 1
    by_cases hL : lk = 0
    · have a1 : ((lk : Int) == 0) = true := by rw [beq_iff_eq]; omega
      have hv : NodL.right ⟨1, lk, gn, sz, d0, d1, d2, d3, d4, d5, sg, db⟩ = false := by simp [NodL.right]; omega
      rw [hv]
      clear hv hr hL
      go_wp2_with fail
      go_ret
      exact ⟨rfl, HB.out⟩
    · have a1 : ((lk : Int) == 0) = false := by rw [beq_eq_false_iff_ne]; omega
      by_cases hS : 16384 < sz
      · have bS : ((16384 : Int) < sz) := by omega
        have dS : decide ((16384 : Int) < sz) = true := decide_eq_true bS
        have hv : NodL.right ⟨1, lk, gn, sz, d0, d1, d2, d3, d4, d5, sg, db⟩ = false := by simp [NodL.right]; omega
        rw [hv]
        clear hv hr hL hS
        go_wp2_with fail
        go_ret
        exact ⟨rfl, HB.out⟩
      · have bS : ¬ ((16384 : Int) < sz) := by omega
        have dS : decide ((16384 : Int) < sz) = false := decide_eq_false bS
        have hv : NodL.right ⟨1, lk, gn, sz, d0, d1, d2, d3, d4, d5, sg, db⟩ = true := by simp [NodL.right]; omega
        rw [hv]
        clear hv hr hL hS
        go_wp2_with fail
        go_ret
        exact ⟨rfl, HB.out⟩
  · -- kind 2
    by_cases hL : lk = 0
    · have a1 : ((lk : Int) == 0) = true := by rw [beq_iff_eq]; omega
      have hv : NodL.right ⟨2, lk, gn, sz, d0, d1, d2, d3, d4, d5, sg, db⟩ = false := by simp [NodL.right]; omega
      rw [hv]
      clear hv hr hL
      go_wp2_with fail
      go_ret
      exact ⟨rfl, HB.out⟩
    · have a1 : ((lk : Int) == 0) = false := by rw [beq_eq_false_iff_ne]; omega
      by_cases hS : 16384 < sz
      · have bS : ((16384 : Int) < sz) := by omega
        have dS : decide ((16384 : Int) < sz) = true := decide_eq_true bS
        have hv : NodL.right ⟨2, lk, gn, sz, d0, d1, d2, d3, d4, d5, sg, db⟩ = false := by simp [NodL.right]; omega
        rw [hv]
        clear hv hr hL hS
        go_wp2_with fail
        go_ret
        exact ⟨rfl, HB.out⟩
      · have bS : ¬ ((16384 : Int) < sz) := by omega
        have dS : decide ((16384 : Int) < sz) = false := decide_eq_false bS
        by_cases hM : ¬ r = 0
        · have a5 : ((r : Int) != 0) = true := by rw [bne_iff_ne]; omega
          have hv : NodL.right ⟨2, lk, gn, sz, d0, d1, d2, d3, d4, d5, sg, db⟩ = false := by simp only [NodL.right]; rw [if_neg (by omega), if_neg (by omega), if_pos trivial, decide_eq_true (p := lk ≠ 0) (by omega), decide_eq_true (p := sz ≤ 16384) (by omega), decide_eq_false (p := sz % 16 = 0) (by omega)]; rfl
          rw [hv]
          clear hv hr hL hS hM
          go_wp2_with fail
          go_ret
          exact ⟨rfl, HB.out⟩
        · have a5 : ((r : Int) != 0) = false := by rw [bne_eq_false_iff_eq]; omega
          have hv : NodL.right ⟨2, lk, gn, sz, d0, d1, d2, d3, d4, d5, sg, db⟩ = true := by simp only [NodL.right]; rw [if_neg (by omega), if_neg (by omega), if_pos trivial, decide_eq_true (p := lk ≠ 0) (by omega), decide_eq_true (p := sz ≤ 16384) (by omega), decide_eq_true (p := sz % 16 = 0) (by omega)]; rfl
          rw [hv]
          clear hv hr hL hS hM
          go_wp2_with fail
          go_ret
          exact ⟨rfl, HB.out⟩
  · -- kind 3
    by_cases hZ : sz = 0
    · have a2 : ((sz : Int) == 0) = true := by rw [beq_iff_eq]; omega
      have a3 : ((sz : Int) != 0) = false := by rw [bne_eq_false_iff_eq]; omega
      have bS : ¬ ((16384 : Int) < sz) := by omega
      have dS : decide ((16384 : Int) < sz) = false := decide_eq_false bS
      by_cases hL : lk = 0
      · have a1 : ((lk : Int) == 0) = true := by rw [beq_iff_eq]; omega
        have hv : NodL.right ⟨3, lk, gn, sz, d0, d1, d2, d3, d4, d5, sg, db⟩ = false := by simp [NodL.right]; omega
        rw [hv]
        clear hv hr hZ hL
        go_wp2_with fail
        go_ret
        exact ⟨rfl, HB.out⟩
      · have a1 : ((lk : Int) == 0) = false := by rw [beq_eq_false_iff_ne]; omega
        have hv : NodL.right ⟨3, lk, gn, sz, d0, d1, d2, d3, d4, d5, sg, db⟩ = true := by simp [NodL.right]; omega
        rw [hv]
        clear hv hr hZ hL
        go_wp2_with fail
        go_ret
        exact ⟨rfl, HB.out⟩
    · have a2 : ((sz : Int) == 0) = false := by rw [beq_eq_false_iff_ne]; omega
      have a3 : ((sz : Int) != 0) = true := by rw [bne_iff_ne]; omega
      have hv : NodL.right ⟨3, lk, gn, sz, d0, d1, d2, d3, d4, d5, sg, db⟩ = false := by simp [NodL.right]; omega
      rw [hv]
      clear hv hr hZ
      go_wp2_with fail
      go_ret
      exact ⟨rfl, HB.out⟩
  · -- kind 4
    by_cases hL : lk = 0
    · have a1 : ((lk : Int) == 0) = true := by rw [beq_iff_eq]; omega
      have hv : NodL.right ⟨4, lk, gn, sz, d0, d1, d2, d3, d4, d5, sg, db⟩ = false := by simp [NodL.right]; omega
      rw [hv]
      clear hv hr hL
      go_wp2_with fail
      go_ret
      exact ⟨rfl, HB.out⟩
    · have a1 : ((lk : Int) == 0) = false := by rw [beq_eq_false_iff_ne]; omega
      by_cases hS : 16384 < sz
      · have bS : ((16384 : Int) < sz) := by omega
        have dS : decide ((16384 : Int) < sz) = true := decide_eq_true bS
        have hv : NodL.right ⟨4, lk, gn, sz, d0, d1, d2, d3, d4, d5, sg, db⟩ = false := by simp [NodL.right]; omega
        rw [hv]
        clear hv hr hL hS
        go_wp2_with fail
        go_ret
        exact ⟨rfl, HB.out⟩
      · have bS : ¬ ((16384 : Int) < sz) := by omega
        have dS : decide ((16384 : Int) < sz) = false := decide_eq_false bS
        by_cases hZ : sz = 0
        · have a2 : ((sz : Int) == 0) = true := by rw [beq_iff_eq]; omega
          have a3 : ((sz : Int) != 0) = false := by rw [bne_eq_false_iff_eq]; omega
          have hv : NodL.right ⟨4, lk, gn, sz, d0, d1, d2, d3, d4, d5, sg, db⟩ = false := by simp [NodL.right]; omega
          rw [hv]
          clear hv hr hL hS hZ
          go_wp2_with fail
          go_ret
          exact ⟨rfl, HB.out⟩
        · have a2 : ((sz : Int) == 0) = false := by rw [beq_eq_false_iff_ne]; omega
          have a3 : ((sz : Int) != 0) = true := by rw [bne_iff_ne]; omega
          by_cases hX : 60 < sz
          · have bX : ((60 : Int) < sz) := by omega
            have dX : decide ((60 : Int) < sz) = true := decide_eq_true bX
            have hv : NodL.right ⟨4, lk, gn, sz, d0, d1, d2, d3, d4, d5, sg, db⟩ = false := by simp [NodL.right]; omega
            rw [hv]
            clear hv hr hL hS hZ hX
            go_wp2_with fail
            go_ret
            exact ⟨rfl, HB.out⟩
          · have bX : ¬ ((60 : Int) < sz) := by omega
            have dX : decide ((60 : Int) < sz) = false := decide_eq_false bX
            have hv : NodL.right ⟨4, lk, gn, sz, d0, d1, d2, d3, d4, d5, sg, db⟩ = true := by simp [NodL.right]; omega
            rw [hv]
            clear hv hr hL hS hZ hX
            go_wp2_with fail
            go_ret
            exact ⟨rfl, HB.out⟩
  · -- kind 5
    by_cases hZ : sz = 0
    · have a2 : ((sz : Int) == 0) = true := by rw [beq_iff_eq]; omega
      have a3 : ((sz : Int) != 0) = false := by rw [bne_eq_false_iff_eq]; omega
      have bS : ¬ ((16384 : Int) < sz) := by omega
      have dS : decide ((16384 : Int) < sz) = false := decide_eq_false bS
      by_cases hL : lk = 0
      · have a1 : ((lk : Int) == 0) = true := by rw [beq_iff_eq]; omega
        have hv : NodL.right ⟨5, lk, gn, sz, d0, d1, d2, d3, d4, d5, sg, db⟩ = false := by simp [NodL.right]; omega
        rw [hv]
        clear hv hr hZ hL
        go_wp2_with fail
        go_ret
        exact ⟨rfl, HB.out⟩
      · have a1 : ((lk : Int) == 0) = false := by rw [beq_eq_false_iff_ne]; omega
        have hv : NodL.right ⟨5, lk, gn, sz, d0, d1, d2, d3, d4, d5, sg, db⟩ = true := by simp [NodL.right]; omega
        rw [hv]
        clear hv hr hZ hL
        go_wp2_with fail
        go_ret
        exact ⟨rfl, HB.out⟩
    · have a2 : ((sz : Int) == 0) = false := by rw [beq_eq_false_iff_ne]; omega
      have a3 : ((sz : Int) != 0) = true := by rw [bne_iff_ne]; omega
      have hv : NodL.right ⟨5, lk, gn, sz, d0, d1, d2, d3, d4, d5, sg, db⟩ = false := by simp [NodL.right]; omega
      rw [hv]
      clear hv hr hZ
      go_wp2_with fail
      go_ret
      exact ⟨rfl, HB.out⟩
  --ENDARMS
end Go.Proofs.Ytonfnlohbgbffaa
