/- The machine: its instructions as one; the next instruction. The machine: an instruction: what it comes to. cpu.step: instructions that can always be done. cpu.step: of two numbers one. cpu.step: a number loaded, stored. The machine: the next instruction. The machine: one instruction as a function. cpu.Run: so many instructions at most. law20's memory: a space of a new pool, with bytes. law20's Awake: the chapter's example. For CpuBoots: runs of nil ones; a loop. cpu.Boot. For the laws of the machine: its memory read; cpu.Boot of a new space. law20's Code: as an argument; its bytes are 220 at most. For the laws of the machine: registers as an argument; states, ends compared; a memory's bytes. -/
import Derived.Test.YtapcbfeifeobhaaCpuEa
import Derived.Test.YtapcbfeifeobhaaCpU1
import Derived.Test.YtapcbfeifeobhaaCpU2
import Derived.Test.YtapcbfeifeobhaaCpU3
import Derived.Test.YtapcbfeifeobhaaOpsK
import Derived.Test.YtapcbfeifeobhaaOpsB
import Derived.Test.YtapcbfeifeobhaaOpsC
import Derived.Test.YtapcbfeifeobhaaConH
import Derived.Test.YtapcbfeifeobhaaChg
import Derived.Deep.CutBlock
import Derived.Deep.CutRange
set_option linter.unusedVariables false
set_option linter.unusedSimpArgs false
namespace Go.Proofs.Ytapcbfeifeobhaa
open Go.RowKit
def plainO (o : Nat) : Bool := decide (o = 1 ∨ o = 2 ∨ o = 3 ∨ o = 4 ∨ o = 21 ∨ o = 30 ∨ o = 31 ∨ o = 32 ∨ o = 33 ∨ o = 34 ∨ o = 35 ∨ o = 36 ∨ o = 37 ∨ o = 38)
theorem plain_all {w : World} {gx : Nat} {s : Mach} (h : w.rowIs gx 36 17 (stV s)) (o x y z : Nat) (ho : plainO o = true) (hx : x < 16) (hy : y ≤ 255) (hz : z ≤ 255) (hz8 : o = 36 → z = 8 ∨ z = 16) (vx vy nx : Int) (v0 : 0 ≤ vx) (v1 : vx ≤ 4294967295) (y0 : 0 ≤ vy) (y1 : vy ≤ 4294967295) (n0 : 0 ≤ nx) (n1 : nx ≤ 4294967295) :
    Calls Try.prog 45 #[.pointer (some ⟨gx, 0, none⟩), .agg #[.int .u8 o, .int .u8 x, .int .u8 y, .int .u8 z], .int .u32 vx, .int .u32 vy, .int .u32 nx] w (PlainP gx s o x y z vx vy nx w) := by
  rcases of_decide_eq_true ho with rfl | rfl | rfl | rfl | rfl | rfl | rfl | rfl | rfl | rfl | rfl | rfl | rfl | rfl
  · exact plain_1 h x y z hx hy hz vx vy nx v0 v1 y0 y1 n0 n1
  · exact plain_2 h x y z hx hy hz vx vy nx v0 v1 y0 y1 n0 n1
  · exact plain_3 h x y z hx hy hz vx vy nx v0 v1 y0 y1 n0 n1
  · exact plain_4 h x y z hx hy hz vx vy nx v0 v1 y0 y1 n0 n1
  · exact plain_21 h x y z hx hy hz vx vy nx v0 v1 y0 y1 n0 n1
  · exact plain_30 h x y z hx hy hz vx vy nx v0 v1 y0 y1 n0 n1
  · exact plain_31 h x y z hx hy hz vx vy nx v0 v1 y0 y1 n0 n1
  · exact plain_32 h x y z hx hy hz vx vy nx v0 v1 y0 y1 n0 n1
  · exact plain_33 h x y z hx hy hz vx vy nx v0 v1 y0 y1 n0 n1
  · exact plain_34 h x y z hx hy hz vx vy nx v0 v1 y0 y1 n0 n1
  · exact plain_35 h x y z hx hy hz vx vy nx v0 v1 y0 y1 n0 n1
  · exact plain_36 h x y z hx hy hz (hz8 rfl) vx vy nx v0 v1 y0 y1 n0 n1
  · exact plain_37 h x y z hx hy hz vx vy nx v0 v1 y0 y1 n0 n1
  · exact plain_38 h x y z hx hy hz vx vy nx v0 v1 y0 y1 n0 n1
section
variable {w : World} {g gm gs base m gx : Nat} {a : Option Addr} {us : Nat → Nat} {v : Value} {F : Nat × Nat → Option (Nat → Nat)} {s : Mach}
theorem mem_all (h : MW w g gm gs base m gx a us v F s) (o x y z : Nat) (h22 : 22 ≤ o) (h29 : o ≤ 29) (hx : x < 16) (at_ : Nat) (ha : at_ ≤ 4294967295) :
    Calls Try.prog 43 #[.pointer (some ⟨gx, 0, none⟩), .pointer (some ⟨gs, 0, none⟩), .agg #[.int .u8 o, .int .u8 x, .int .u8 y, .int .u8 z], .int .u32 at_] w (MemP g gm gs base m gx a us v s o x at_ w) := by
  rcases (show o = 22 ∨ o = 23 ∨ o = 24 ∨ o = 25 ∨ o = 26 ∨ o = 27 ∨ o = 28 ∨ o = 29 by omega) with rfl | rfl | rfl | rfl | rfl | rfl | rfl | rfl
  · exact mem_22 h x y z hx at_ ha
  · exact mem_23 h x y z hx at_ ha
  · exact mem_24 h x y z hx at_ ha
  · exact mem_25 h x y z hx at_ ha
  · exact mem_26 h x y z hx at_ ha
  · exact mem_27 h x y z hx at_ ha
  · exact mem_28 h x y z hx at_ ha
  · exact mem_29 h x y z hx at_ ha
end
end Go.Proofs.Ytapcbfeifeobhaa

set_option linter.unusedVariables false
set_option linter.unusedSimpArgs false
namespace Go.Proofs.Ytapcbfeifeobhaa
open Go.RowKit
def setAt (s : Mach) (v : Int) : Mach := ⟨s.R, v, s.mem⟩
theorem stV_at (s : Mach) (v : Int) (j : Nat) (hj : j < 17) : stV (setAt s v) j = if j = 16 then .int .u32 v else stV s j := by
  unfold stV setAt
  by_cases h : j = 16
  · subst h; rfl
  · have h1 : j < 16 := by omega
    simp [h, h1]
theorem row_at {w : World} {gx : Nat} {s : Mach} (h : w.rowIs gx 36 17 (stV s)) (v : Int) : (w.setCell ⟨gx, 16, none⟩ (.int .u32 v)).rowIs gx 36 17 (stV (setAt s v)) :=
  (h.set 16 (.int .u32 v)).congr (fun j hj => (stV_at s v j hj).symm)
theorem MOk.setAt {m : Nat} {s : Mach} (h : MOk m s) (v : Int) (h0 : 0 ≤ v) (h1 : v ≤ 4294967295) : MOk m (setAt s v) := ⟨h.r0, ⟨h0, h1⟩, h.m0⟩
def nextI (s : Mach) : Int := (s.at_ + 4) % 4294967296
theorem nextI_le (s : Mach) : 0 ≤ nextI s ∧ nextI s ≤ 4294967295 := by unfold nextI; omega
/-- An instruction that is right, and no call. -/
def stepI (m : Nat) (s : Mach) (o x y z : Nat) : Mach × Int :=
  if 5 ≤ o ∧ o ≤ 20 then (if (numI o (s.R (y % 16)) (s.R (z % 16))).2 = 0 then (setAt (setR s x (numI o (s.R (y % 16)) (s.R (z % 16))).1) (nextI s), 0) else (s, (numI o (s.R (y % 16)) (s.R (z % 16))).2))
  else if 22 ≤ o ∧ o ≤ 29 then (if (memI m s o x ((s.R (y % 16) + near z % 4294967296) % 4294967296).toNat).2 = 0 then (setAt (memI m s o x ((s.R (y % 16) + near z % 4294967296) % 4294967296).toNat).1 (nextI s), 0) else (s, (memI m s o x ((s.R (y % 16) + near z % 4294967296) % 4294967296).toNat).2))
  else (setAt (plainI s o x y z (s.R (x % 16)) (s.R (y % 16)) (nextI s)).1 (plainI s o x y z (s.R (x % 16)) (s.R (y % 16)) (nextI s)).2, 0)
theorem toI_le (y z : Nat) (nx : Int) : 0 ≤ toI y z nx ∧ toI y z nx ≤ 4294967295 := by unfold toI; omega
theorem plainI_ok {m : Nat} {s : Mach} (h : MOk m s) (o x y z : Nat) (hx : x < 16) (hy : y ≤ 255) (hz : z ≤ 255) (vx vy nx : Int) (v0 : 0 ≤ vx) (v1 : vx ≤ 4294967295) (y0 : 0 ≤ vy) (y1 : vy ≤ 4294967295) (n0 : 0 ≤ nx) (n1 : nx ≤ 4294967295) :
    MOk m (plainI s o x y z vx vy nx).1 ∧ (plainI s o x y z vx vy nx).1.mem = s.mem ∧ 0 ≤ (plainI s o x y z vx vy nx).2 ∧ (plainI s o x y z vx vy nx).2 ≤ 4294967295 := by
  have hl := lenI_le vy y0 y1
  have hp := popI_le vy y0 y1
  have ht := toI_le y z nx
  have hw : 0 ≤ wideI y z ∧ wideI y z ≤ 65535 := by unfold wideI; omega
  have hr := h.r0 15 (by omega)
  have key : ∀ p : Mach × Int, p = plainI s o x y z vx vy nx → MOk m p.1 ∧ p.1.mem = s.mem ∧ 0 ≤ p.2 ∧ p.2 ≤ 4294967295 := fun p hp' => by
    unfold plainI at hp'
    by_cases c1 : o = 1
    · rw [if_pos c1] at hp'
      subst hp'
      exact ⟨h.setR x _ y0 y1, rfl, n0, n1⟩
    rw [if_neg c1] at hp'
    by_cases c2 : o = 2
    · rw [if_pos c2] at hp'
      subst hp'
      exact ⟨h.setR x _ hw.1 (by omega), rfl, n0, n1⟩
    rw [if_neg c2] at hp'
    by_cases c3 : o = 3
    · rw [if_pos c3] at hp'
      subst hp'
      exact ⟨h.setR x _ (by omega) (by omega), rfl, n0, n1⟩
    rw [if_neg c3] at hp'
    by_cases c4 : o = 4
    · rw [if_pos c4] at hp'
      subst hp'
      exact ⟨h.setR x _ (by omega) (by omega), rfl, n0, n1⟩
    rw [if_neg c4] at hp'
    by_cases c21 : o = 21
    · rw [if_pos c21] at hp'
      subst hp'
      exact ⟨h.setR x _ (by omega) (by omega), rfl, n0, n1⟩
    rw [if_neg c21] at hp'
    by_cases c37 : o = 37
    · rw [if_pos c37] at hp'
      subst hp'
      exact ⟨h.setR x _ (by omega) (by omega), rfl, n0, n1⟩
    rw [if_neg c37] at hp'
    by_cases c38 : o = 38
    · rw [if_pos c38] at hp'
      subst hp'
      exact ⟨h.setR x _ hp.1 (by omega), rfl, n0, n1⟩
    rw [if_neg c38] at hp'
    by_cases c36 : o = 36
    · rw [if_pos c36] at hp'
      subst hp'
      refine ⟨h.setR x _ ?_ ?_, rfl, n0, n1⟩
      · by_cases c : z = 8
        · rw [if_pos c]; exact (sx8_le _).1
        · rw [if_neg c]; exact (sx16_le _).1
      · by_cases c : z = 8
        · rw [if_pos c]; exact (sx8_le _).2
        · rw [if_neg c]; exact (sx16_le _).2
    rw [if_neg c36] at hp'
    by_cases c31 : o = 31
    · rw [if_pos c31] at hp'
      subst hp'
      refine ⟨h, rfl, ?_, ?_⟩
      · dsimp only
        by_cases c : vx = 0
        · rw [if_pos c]; omega
        · rw [if_neg c]; omega
      · dsimp only
        by_cases c : vx = 0
        · rw [if_pos c]; omega
        · rw [if_neg c]; omega
    rw [if_neg c31] at hp'
    by_cases c32 : o = 32
    · rw [if_pos c32] at hp'
      subst hp'
      refine ⟨h, rfl, ?_, ?_⟩
      · dsimp only
        by_cases c : vx = 0
        · rw [if_pos c]; omega
        · rw [if_neg c]; omega
      · dsimp only
        by_cases c : vx = 0
        · rw [if_pos c]; omega
        · rw [if_neg c]; omega
    rw [if_neg c32] at hp'
    by_cases c33 : o = 33
    · rw [if_pos c33] at hp'
      subst hp'
      exact ⟨h.setR 15 _ n0 n1, rfl, ht.1, ht.2⟩
    rw [if_neg c33] at hp'
    by_cases c30 : o = 30
    · rw [if_pos c30] at hp'
      subst hp'
      exact ⟨h, rfl, ht.1, ht.2⟩
    rw [if_neg c30] at hp'
    by_cases c34 : o = 34
    · rw [if_pos c34] at hp'
      subst hp'
      exact ⟨h, rfl, hr.1, hr.2⟩
    rw [if_neg c34] at hp'
    by_cases c35 : o = 35
    · rw [if_pos c35] at hp'
      subst hp'
      exact ⟨h, rfl, v0, v1⟩
    rw [if_neg c35] at hp'
    subst hp'
    exact ⟨h, rfl, n0, n1⟩
  exact key _ rfl
def StepP (g gm gs base m gx : Nat) (a : Option Addr) (us : Nat → Nat) (v : Value) (s : Mach) (o x y z : Nat) (w : World) (e : Ending) (w' : World) : Prop :=
  e = .returned (.int .i64 (stepI m s o x y z).2) ∧ (∃ F', MW w' g gm gs base m gx a us v F' (stepI m s o x y z).1) ∧ Chg (mwS g gm gx) w w'
end Go.Proofs.Ytapcbfeifeobhaa

set_option linter.unusedVariables false
set_option linter.unusedSimpArgs false
namespace Go.Proofs.Ytapcbfeifeobhaa
open Go.RowKit
set_option maxRecDepth 20000 in
set_option maxHeartbeats 8000000 in
theorem step_plain {w : World} {g gm gs base m gx : Nat} {a : Option Addr} {us : Nat → Nat} {v : Value} {F : Nat × Nat → Option (Nat → Nat)} {s : Mach} (h : MW w g gm gs base m gx a us v F s) (o x y z : Nat) (o39 : o < 39) (ho : plainO o = true) (hz8 : o = 36 → z = 8 ∨ z = 16) (hx : x < 16) (hy : y ≤ 255) (hz : z ≤ 255) :
    Calls Try.prog 26 #[.pointer (some ⟨gx, 0, none⟩), .pointer (some ⟨gs, 0, none⟩), .agg #[.int .u8 o, .int .u8 x, .int .u8 y, .int .u8 z]] w (StepP g gm gs base m gx a us v s o x y z w) := by
  have hb1 := bnew w (.cells #[.int .u8 o, .int .u8 x, .int .u8 y, .int .u8 z] 24)
  have hl1 := heap_alloc_last w (.cells #[.int .u8 o, .int .u8 x, .int .u8 y, .int .u8 z] 24)
  have hh := h.keep hb1
  have hc := rowcell hl1
  obtain ⟨xm, hxm⟩ : ∃ k, k = x % 16 := ⟨_, rfl⟩
  obtain ⟨ym, hym⟩ : ∃ k, k = y % 16 := ⟨_, rfl⟩
  obtain ⟨zm, hzm⟩ : ∃ k, k = z % 16 := ⟨_, rfl⟩
  have fx : (x : Int) % 16 = xm := by omega
  have fy : (y : Int) % 16 = ym := by omega
  have fz : (z : Int) % 16 = zm := by omega
  have lx : (xm : Int) < 16 := by omega
  have ly : (ym : Int) < 16 := by omega
  have lz : (zm : Int) < 16 := by omega
  obtain ⟨vx, hvx⟩ : ∃ k, k = s.R xm := ⟨_, rfl⟩
  obtain ⟨vy, hvy⟩ : ∃ k, k = s.R ym := ⟨_, rfl⟩
  obtain ⟨vz, hvz⟩ : ∃ k, k = s.R zm := ⟨_, rfl⟩
  obtain ⟨va, hva⟩ : ∃ k, k = s.at_ := ⟨_, rfl⟩
  obtain ⟨nx, hnx⟩ : ∃ k, k = nextI s := ⟨_, rfl⟩
  have rx := h.wf.r0 xm (by omega)
  have ry := h.wf.r0 ym (by omega)
  have rz := h.wf.r0 zm (by omega)
  have ra := h.wf.a0
  have rn := nextI_le s
  rw [← hvx] at rx
  rw [← hvy] at ry
  rw [← hvz] at rz
  rw [← hva] at ra
  rw [← hnx] at rn
  have fn : IntKind.u32.wrap (va + 4) = nx := by rw [IntKind.wrap_u32, hnx, hva]; rfl
  have fn2 : (va + 4) % 4294967296 = nx := by rw [hnx, hva]; rfl
  have cs : ∀ j, j < 16 → (w.alloc (.cells #[.int .u8 o, .int .u8 x, .int .u8 y, .int .u8 z] 24)).cell? ⟨gx, j, none⟩ = some (.int .u32 (s.R j)) := fun j hj => by rw [hh.rw.cell (i := j) (by omega)]; unfold stV; rw [if_pos hj]
  have cx := cs xm (by omega)
  have cy := cs ym (by omega)
  have cz := cs zm (by omega)
  rw [← hvx] at cx
  rw [← hvy] at cy
  rw [← hvz] at cz
  have c16 : (w.alloc (.cells #[.int .u8 o, .int .u8 x, .int .u8 y, .int .u8 z] 24)).cell? ⟨gx, 16, none⟩ = some (.int .u32 va) := by rw [hh.rw.cell (i := 16) (by omega), hva]; rfl
  have HXM := Lib.hid hxm
  have HYM := Lib.hid hym
  have HZM := Lib.hid hzm
  have HVX := Lib.hid hvx
  have HVY := Lib.hid hvy
  have HVZ := Lib.hid hvz
  have HNX := Lib.hid hnx
  have HB1 := Lib.hid hb1
  have HL1 := Lib.hid hl1
  have HH := Lib.hid hh
  have hof := fun w => opsOf_any (o : Int) (by omega) (by omega) w
  rw [Int.toNat_natCast] at hof
  obtain ⟨f, hf⟩ : ∃ f, f = formOf o := ⟨_, rfl⟩
  rw [← hf] at hof
  have HF := Lib.hid hf
  clear hb1 hl1 hh hxm hym hzm hvx hvy hvz hva hnx cs h
  have ff : f ≤ 8 ∧ f ≠ 3 ∧ (f = 4 → o = 21) ∧ (o = 21 → f = 4) := by
    rw [hf]
    rcases of_decide_eq_true ho with rfl | rfl | rfl | rfl | rfl | rfl | rfl | rfl | rfl | rfl | rfl | rfl | rfl | rfl <;> decide
  have hov : ofVal f = .tuple #[.int .u8 f, .bool true] := by unfold ofVal; rw [if_pos (by omega), decide_eq_true (by omega)]
  rw [hov] at hof
  have g3 : ((f : Int) == 3) = false := by rw [beq_eq_false_iff_ne]; omega
  have g3n : (f == 3) = false := by rw [beq_eq_false_iff_ne]; omega
  have hno : ¬ (5 ≤ o ∧ o ≤ 20) := by rcases of_decide_eq_true ho with rfl | rfl | rfl | rfl | rfl | rfl | rfl | rfl | rfl | rfl | rfl | rfl | rfl | rfl <;> omega
  have hnm : ¬ (22 ≤ o ∧ o ≤ 29) := by rcases of_decide_eq_true ho with rfl | rfl | rfl | rfl | rfl | rfl | rfl | rfl | rfl | rfl | rfl | rfl | rfl | rfl <;> omega
  have HNO := Lib.hid hno
  have HNM := Lib.hid hnm
  have HPL := Lib.hid (fun (w1 : World) (h1 : w1.rowIs gx 36 17 (stV s)) => plain_all h1 o x y z ho hx hy hz hz8 vx vy nx rx.1 rx.2 ry.1 ry.2 rn.1 rn.2)
  have HPO := Lib.hid (plainI_ok HH.out.wf o x y z hx hy hz vx vy nx rx.1 rx.2 ry.1 ry.2 rn.1 rn.2)
  have HFF := Lib.hid ff
  clear hov hno hnm ho hz8 hf
  by_cases f4 : f = 4
  · have o21 : o = 21 := HFF.out.2.2.1 f4
    have g4 : ((f : Int) == 4) = true := by rw [beq_iff_eq]; omega
    have g4n : (f == 4) = true := by rw [beq_iff_eq]; exact f4
    have g5 : ((o : Int) != 21) = false := by rw [bne_eq_false_iff_eq]; omega
    have g5n : (o != 21) = false := by rw [bne_eq_false_iff_eq]; exact o21
    clear f4 o21 ff
    have HOF := Lib.hid hof
    clear hof
    go_enter Try.func26, Try.ntmps26
    go_wp2_with fail
    obtain ⟨N, hN⟩ : ∃ N, N = w.heap.size := ⟨_, rfl⟩
    rw [← hN] at hc ⊢
    have HN := Lib.hid hN
    generalize w.alloc (.cells #[.int .u8 o, .int .u8 x, .int .u8 y, .int .u8 z] 24) = w1 at *
    clear hN
    go_upto_region 2 with fail
    go_quiet (fail)
    go_wp2_with fail
    refine (HOF.out _).mono ?_
    rintro e w3 ⟨rfl, hb3⟩
    have hb13 : Below w1.heap.size w1 w3 := bnext (bdrewN (Below.refl _ _) nq) hb3
    have hl3 := bkeep hb13 HL1.out
    rw [← HN.out] at hl3
    have HL3 := Lib.hid hl3
    have HH3 := Lib.hid (HH.out.keep hb13)
    have HB3 := Lib.hid (bnext HB1.out hb13)
    clear hc cx cy cz c16 hb3 hb13
    have hc := rowcell hl3
    clear hl3
    go_wp2_with fail
    refine (HPL.out _ HH3.out.rw).mono ?_
    rintro e w4 ⟨rfl, hr4, hc4⟩
    have HR4 := Lib.hid hr4
    have HC4 := Lib.hid hc4
    have HM4 := Lib.hid (HH3.out.regs hc4 hr4 HPO.out.2.1 HPO.out.1)
    have c16 : w4.cell? ⟨gx, 16, none⟩ = some (stV (plainI s o x y z vx vy nx).1 16) := hr4.cell (i := 16) (by omega)
    have c16' : w4.cell? ⟨gx, 16, none⟩ = some (.int .u32 (plainI s o x y z vx vy nx).1.at_) := c16
    have cf := hr4.frozen
    obtain ⟨q, hq⟩ : ∃ q, q = plainI s o x y z vx vy nx := ⟨_, rfl⟩
    rw [← hq] at c16' HR4 HM4 HPO ⊢
    have HQ := Lib.hid hq
    clear hr4 hc4 c16 hc hq
    go_wp2_with fail
    go_ret
    have o5 := one_setCell w4 gx 16 (.int .u32 q.2)
    have hr5 := row_at HR4.out q.2
    have e1 : stepI m s o x y z = (setAt q.1 q.2, 0) := by
      unfold stepI
      rw [if_neg HNO.out, if_neg HNM.out, ← HXM.out, ← HYM.out, ← HVX.out, ← HVY.out, ← HNX.out, ← HQ.out]
    refine ⟨by rw [e1]; rfl, ⟨F, by rw [e1]; exact HM4.out.regs (chgOne (Chg.of_below _ (Below.refl _ _)) o5 (fun x e => .inl (by cases e; rfl))) hr5 rfl (HPO.out.1.setAt q.2 HPO.out.2.2.1 HPO.out.2.2.2)⟩, chgOne ((Chg.of_below (mwS g gm gx) HB3.out).trans HC4.out (fun _ _ h => .inl h)) o5 (fun x e => .inl (.inl (by cases e; rfl)))⟩
  · have g4 : ((f : Int) == 4) = false := by rw [beq_eq_false_iff_ne]; omega
    have g4n : (f == 4) = false := by rw [beq_eq_false_iff_ne]; exact f4
    clear f4 ff
    have HOF := Lib.hid hof
    clear hof
    go_enter Try.func26, Try.ntmps26
    go_wp2_with fail
    obtain ⟨N, hN⟩ : ∃ N, N = w.heap.size := ⟨_, rfl⟩
    rw [← hN] at hc ⊢
    have HN := Lib.hid hN
    generalize w.alloc (.cells #[.int .u8 o, .int .u8 x, .int .u8 y, .int .u8 z] 24) = w1 at *
    clear hN
    go_upto_region 2 with fail
    go_quiet (fail)
    go_wp2_with fail
    refine (HOF.out _).mono ?_
    rintro e w3 ⟨rfl, hb3⟩
    have hb13 : Below w1.heap.size w1 w3 := bnext (bdrewN (Below.refl _ _) nq) hb3
    have hl3 := bkeep hb13 HL1.out
    rw [← HN.out] at hl3
    have HL3 := Lib.hid hl3
    have HH3 := Lib.hid (HH.out.keep hb13)
    have HB3 := Lib.hid (bnext HB1.out hb13)
    clear hc cx cy cz c16 hb3 hb13
    have hc := rowcell hl3
    clear hl3
    go_wp2_with fail
    refine (HPL.out _ HH3.out.rw).mono ?_
    rintro e w4 ⟨rfl, hr4, hc4⟩
    have HR4 := Lib.hid hr4
    have HC4 := Lib.hid hc4
    have HM4 := Lib.hid (HH3.out.regs hc4 hr4 HPO.out.2.1 HPO.out.1)
    have c16 : w4.cell? ⟨gx, 16, none⟩ = some (stV (plainI s o x y z vx vy nx).1 16) := hr4.cell (i := 16) (by omega)
    have c16' : w4.cell? ⟨gx, 16, none⟩ = some (.int .u32 (plainI s o x y z vx vy nx).1.at_) := c16
    have cf := hr4.frozen
    obtain ⟨q, hq⟩ : ∃ q, q = plainI s o x y z vx vy nx := ⟨_, rfl⟩
    rw [← hq] at c16' HR4 HM4 HPO ⊢
    have HQ := Lib.hid hq
    clear hr4 hc4 c16 hc hq
    go_wp2_with fail
    go_ret
    have o5 := one_setCell w4 gx 16 (.int .u32 q.2)
    have hr5 := row_at HR4.out q.2
    have e1 : stepI m s o x y z = (setAt q.1 q.2, 0) := by
      unfold stepI
      rw [if_neg HNO.out, if_neg HNM.out, ← HXM.out, ← HYM.out, ← HVX.out, ← HVY.out, ← HNX.out, ← HQ.out]
    refine ⟨by rw [e1]; rfl, ⟨F, by rw [e1]; exact HM4.out.regs (chgOne (Chg.of_below _ (Below.refl _ _)) o5 (fun x e => .inl (by cases e; rfl))) hr5 rfl (HPO.out.1.setAt q.2 HPO.out.2.2.1 HPO.out.2.2.2)⟩, chgOne ((Chg.of_below (mwS g gm gx) HB3.out).trans HC4.out (fun _ _ h => .inl h)) o5 (fun x e => .inl (.inl (by cases e; rfl)))⟩
end Go.Proofs.Ytapcbfeifeobhaa

set_option linter.unusedVariables false
set_option linter.unusedSimpArgs false
namespace Go.Proofs.Ytapcbfeifeobhaa
open Go.RowKit
set_option maxRecDepth 20000 in
set_option maxHeartbeats 8000000 in
theorem step_num {w : World} {g gm gs base m gx : Nat} {a : Option Addr} {us : Nat → Nat} {v : Value} {F : Nat × Nat → Option (Nat → Nat)} {s : Mach} (h : MW w g gm gs base m gx a us v F s) (o x y z : Nat) (o39 : o < 39) (h5 : 5 ≤ o) (h20 : o ≤ 20) (hx : x < 16) (hy : y ≤ 255) (hz : z ≤ 255) :
    Calls Try.prog 26 #[.pointer (some ⟨gx, 0, none⟩), .pointer (some ⟨gs, 0, none⟩), .agg #[.int .u8 o, .int .u8 x, .int .u8 y, .int .u8 z]] w (StepP g gm gs base m gx a us v s o x y z w) := by
  have hb1 := bnew w (.cells #[.int .u8 o, .int .u8 x, .int .u8 y, .int .u8 z] 24)
  have hl1 := heap_alloc_last w (.cells #[.int .u8 o, .int .u8 x, .int .u8 y, .int .u8 z] 24)
  have hh := h.keep hb1
  have hc := rowcell hl1
  obtain ⟨xm, hxm⟩ : ∃ k, k = x % 16 := ⟨_, rfl⟩
  obtain ⟨ym, hym⟩ : ∃ k, k = y % 16 := ⟨_, rfl⟩
  obtain ⟨zm, hzm⟩ : ∃ k, k = z % 16 := ⟨_, rfl⟩
  have fx : (x : Int) % 16 = xm := by omega
  have fy : (y : Int) % 16 = ym := by omega
  have fz : (z : Int) % 16 = zm := by omega
  have lx : (xm : Int) < 16 := by omega
  have ly : (ym : Int) < 16 := by omega
  have lz : (zm : Int) < 16 := by omega
  obtain ⟨vx, hvx⟩ : ∃ k, k = s.R xm := ⟨_, rfl⟩
  obtain ⟨vy, hvy⟩ : ∃ k, k = s.R ym := ⟨_, rfl⟩
  obtain ⟨vz, hvz⟩ : ∃ k, k = s.R zm := ⟨_, rfl⟩
  obtain ⟨va, hva⟩ : ∃ k, k = s.at_ := ⟨_, rfl⟩
  obtain ⟨nx, hnx⟩ : ∃ k, k = nextI s := ⟨_, rfl⟩
  have rx := h.wf.r0 xm (by omega)
  have ry := h.wf.r0 ym (by omega)
  have rz := h.wf.r0 zm (by omega)
  have ra := h.wf.a0
  have rn := nextI_le s
  rw [← hvx] at rx
  rw [← hvy] at ry
  rw [← hvz] at rz
  rw [← hva] at ra
  rw [← hnx] at rn
  have fn : IntKind.u32.wrap (va + 4) = nx := by rw [IntKind.wrap_u32, hnx, hva]; rfl
  have fn2 : (va + 4) % 4294967296 = nx := by rw [hnx, hva]; rfl
  have cs : ∀ j, j < 16 → (w.alloc (.cells #[.int .u8 o, .int .u8 x, .int .u8 y, .int .u8 z] 24)).cell? ⟨gx, j, none⟩ = some (.int .u32 (s.R j)) := fun j hj => by rw [hh.rw.cell (i := j) (by omega)]; unfold stV; rw [if_pos hj]
  have cx := cs xm (by omega)
  have cy := cs ym (by omega)
  have cz := cs zm (by omega)
  rw [← hvx] at cx
  rw [← hvy] at cy
  rw [← hvz] at cz
  have c16 : (w.alloc (.cells #[.int .u8 o, .int .u8 x, .int .u8 y, .int .u8 z] 24)).cell? ⟨gx, 16, none⟩ = some (.int .u32 va) := by rw [hh.rw.cell (i := 16) (by omega), hva]; rfl
  have HXM := Lib.hid hxm
  have HYM := Lib.hid hym
  have HZM := Lib.hid hzm
  have HVX := Lib.hid hvx
  have HVY := Lib.hid hvy
  have HVZ := Lib.hid hvz
  have HNX := Lib.hid hnx
  have HB1 := Lib.hid hb1
  have HL1 := Lib.hid hl1
  have HH := Lib.hid hh
  have hof := fun w => opsOf_any (o : Int) (by omega) (by omega) w
  rw [Int.toNat_natCast] at hof
  obtain ⟨f, hf⟩ : ∃ f, f = formOf o := ⟨_, rfl⟩
  rw [← hf] at hof
  have HF := Lib.hid hf
  clear hb1 hl1 hh hxm hym hzm hvx hvy hvz hva hnx cs h
  have f3 : f = 3 := by rw [hf]; exact (by decide : ∀ n, n < 21 → 5 ≤ n → formOf n = 3) o (by omega) h5
  subst f3
  have hov : ofVal 3 = .tuple #[.int .u8 (3 : Nat), .bool true] := rfl
  rw [hov] at hof
  have HNU := Lib.hid (fun w => number_any o h5 h20 vy vz ry.1 ry.2 rz.1 rz.2 w)
  have hnl := numI_le o h5 h20 vy vz ry.1 ry.2 rz.1 rz.2
  obtain ⟨n1, hn1⟩ : ∃ k, k = (numI o vy vz).1 := ⟨_, rfl⟩
  obtain ⟨ne, hne⟩ : ∃ k, k = (numI o vy vz).2 := ⟨_, rfl⟩
  rw [← hn1] at HNU hnl
  rw [← hne] at HNU
  have HN1 := Lib.hid hn1
  have HNE := Lib.hid hne
  have HO5 := Lib.hid (And.intro h5 h20)
  have hxi : (x : Int) < 16 := by omega
  clear hn1 hne hf h5 h20 hov
  have HOF := Lib.hid hof
  clear hof
  go_enter Try.func26, Try.ntmps26
  go_wp2_with fail
  obtain ⟨N, hN⟩ : ∃ N, N = w.heap.size := ⟨_, rfl⟩
  rw [← hN] at hc ⊢
  have HN := Lib.hid hN
  generalize w.alloc (.cells #[.int .u8 o, .int .u8 x, .int .u8 y, .int .u8 z] 24) = w1 at *
  clear hN
  go_upto_region 2 with fail
  go_quiet (fail)
  go_wp2_with fail
  refine (HOF.out _).mono ?_
  rintro e w3 ⟨rfl, hb3⟩
  have hb13 : Below w1.heap.size w1 w3 := bnext (bdrewN (Below.refl _ _) nq) hb3
  have hl3 := bkeep hb13 HL1.out
  rw [← HN.out] at hl3
  have HL3 := Lib.hid hl3
  have HH3 := Lib.hid (HH.out.keep hb13)
  have HB3 := Lib.hid (bnext HB1.out hb13)
  clear hc cx cy cz c16 hb3 hb13
  have hc := rowcell hl3
  clear hl3
  go_wp2_with fail
  refine (HNU.out _).mono ?_
  rintro e w4 ⟨rfl, rfl⟩
  by_cases hz0 : ne = 0
  · have q1 : (ne != 0) = false := by rw [bne_eq_false_iff_eq]; exact hz0
    have HZ0 := Lib.hid hz0
    clear hz0
    go_wp2_with fail
    go_upto_region 9 with fail
    have hh5 := HH3.out.keep (drewb w3)
    have hl5 := bkeep (drewb w3) HL3.out
    have hc5 := rowcell hl5
    have cx5 : (World.drew w3).cell? ⟨gx, x, none⟩ = some (.int .u32 (s.R x)) := by rw [hh5.rw.cell (i := x) (by omega)]; unfold stV; rw [if_pos hx]
    have c16 : (World.drew w3).cell? ⟨gx, 16, none⟩ = some (.int .u32 s.at_) := hh5.rw.cell (i := 16) (by omega)
    have cf := hh5.rw.frozen
    have HH5 := Lib.hid hh5
    clear hc hl5 hh5
    refine wp_region_still_tail 7 (by kernel_rfl) (by kernel_rfl) ?_
    simp only [List.take_succ_cons, List.take_zero, List.drop_succ_cons, List.drop_zero]
    change wpStill _ _ (World.drew w3) _ _ _
    iterate 7 still_step
    refine wpStill_nil ?_
    change wpList _ _ _ _ _ (World.drew w3)
    have HD := Lib.hid (Chg.of_below (mwS g gm gx) (drewb w3))
    generalize World.drew w3 = wz at *
    go_wp2_with (with_reducible refine wpList_stop (some 98) rfl ?_)
    refine Lib.hid ?_
    have hS1 := row_set HH5.out.rw x hx n1
    have o1 := one_setCell wz gx x (.int .u32 n1)
    have hm1 := HH5.out.regs (chgOne (Chg.of_below _ (Below.refl _ _)) o1 (fun x e => .inl (by cases e; rfl))) hS1 rfl (HH5.out.wf.setR x n1 hnl.1 hnl.2)
    generalize wz.setCell ⟨gx, x, none⟩ (.int .u32 n1) = w5 at *
    have c17 : w5.cell? ⟨gx, 16, none⟩ = some (.int .u32 s.at_) := hS1.cell (i := 16) (by omega)
    have cf5 := hS1.frozen
    have HM1 := Lib.hid hm1
    have HO1 := Lib.hid (chgOne HD.out o1 (fun x e => .inl (.inl (by cases e; rfl))))
    clear cx5 c16 cf hc5 hS1 o1 hm1
    go_wp2_with fail
    refine ⟨_, results_tmp rfl _ _ _, ?_⟩
    have o6 := one_setCell w5 gx 16 (.int .u32 nx)
    have hr6 := row_at HM1.out.rw nx
    have e1 : stepI m s o x y z = (setAt (setR s x n1) nx, 0) := by
      unfold stepI
      rw [if_pos HO5.out, ← HYM.out, ← HZM.out, ← HVY.out, ← HVZ.out, ← HNE.out, if_pos HZ0.out, ← HN1.out, ← HNX.out]
    exact ⟨by rw [e1]; rfl, ⟨F, by rw [e1]; exact HM1.out.regs (chgOne (Chg.of_below _ (Below.refl _ _)) o6 (fun x e => .inl (by cases e; rfl))) hr6 rfl (HM1.out.wf.setAt nx rn.1 rn.2)⟩, chgOne ((Chg.of_below (mwS g gm gx) HB3.out).trans HO1.out (fun _ _ h => h)) o6 (fun x e => .inl (.inl (by cases e; rfl)))⟩
  · have q1 : (ne != 0) = true := by rw [bne_iff_ne]; exact hz0
    have HZ0 := Lib.hid hz0
    clear hz0
    go_wp2_with fail
    go_ret
    have e1 : stepI m s o x y z = (s, ne) := by
      unfold stepI
      rw [if_pos HO5.out, ← HYM.out, ← HZM.out, ← HVY.out, ← HVZ.out, ← HNE.out, if_neg HZ0.out]
    exact ⟨by rw [e1]; rfl, ⟨F, by rw [e1]; exact HH3.out⟩, Chg.of_below _ HB3.out⟩
end Go.Proofs.Ytapcbfeifeobhaa

set_option linter.unusedVariables false
set_option linter.unusedSimpArgs false
namespace Go.Proofs.Ytapcbfeifeobhaa
open Go.RowKit
theorem memI_err {m : Nat} {s : Mach} {o x a : Nat} (h : (memI m s o x a).2 ≠ 0) : (memI m s o x a).1 = s := by
  unfold memI at h ⊢
  by_cases c : 64 * m < a + bytesN o
  · rw [if_pos c]
  · rw [if_neg c] at h
    by_cases d : o = 27 ∨ o = 28 ∨ o = 29
    · rw [if_pos d] at h; exact absurd rfl h
    · rw [if_neg d] at h; exact absurd rfl h
set_option maxRecDepth 20000 in
set_option maxHeartbeats 8000000 in
theorem step_mem {w : World} {g gm gs base m gx : Nat} {a : Option Addr} {us : Nat → Nat} {v : Value} {F : Nat × Nat → Option (Nat → Nat)} {s : Mach} (h : MW w g gm gs base m gx a us v F s) (o x y z : Nat) (o39 : o < 39) (h22 : 22 ≤ o) (h29 : o ≤ 29) (hx : x < 16) (hy : y ≤ 255) (hz : z ≤ 255) :
    Calls Try.prog 26 #[.pointer (some ⟨gx, 0, none⟩), .pointer (some ⟨gs, 0, none⟩), .agg #[.int .u8 o, .int .u8 x, .int .u8 y, .int .u8 z]] w (StepP g gm gs base m gx a us v s o x y z w) := by
  have hb1 := bnew w (.cells #[.int .u8 o, .int .u8 x, .int .u8 y, .int .u8 z] 24)
  have hl1 := heap_alloc_last w (.cells #[.int .u8 o, .int .u8 x, .int .u8 y, .int .u8 z] 24)
  have hh := h.keep hb1
  have hc := rowcell hl1
  obtain ⟨xm, hxm⟩ : ∃ k, k = x % 16 := ⟨_, rfl⟩
  obtain ⟨ym, hym⟩ : ∃ k, k = y % 16 := ⟨_, rfl⟩
  obtain ⟨zm, hzm⟩ : ∃ k, k = z % 16 := ⟨_, rfl⟩
  have fx : (x : Int) % 16 = xm := by omega
  have fy : (y : Int) % 16 = ym := by omega
  have fz : (z : Int) % 16 = zm := by omega
  have lx : (xm : Int) < 16 := by omega
  have ly : (ym : Int) < 16 := by omega
  have lz : (zm : Int) < 16 := by omega
  obtain ⟨vx, hvx⟩ : ∃ k, k = s.R xm := ⟨_, rfl⟩
  obtain ⟨vy, hvy⟩ : ∃ k, k = s.R ym := ⟨_, rfl⟩
  obtain ⟨vz, hvz⟩ : ∃ k, k = s.R zm := ⟨_, rfl⟩
  obtain ⟨va, hva⟩ : ∃ k, k = s.at_ := ⟨_, rfl⟩
  obtain ⟨nx, hnx⟩ : ∃ k, k = nextI s := ⟨_, rfl⟩
  have rx := h.wf.r0 xm (by omega)
  have hgN : w.heap.size ≠ gx := by have := h.rw.lt; omega
  have hgN2 : w.heap.size ≠ g := by have := h.tp.row.lt; omega
  have hgN3 : w.heap.size ≠ gm := by have := h.tp.mp.lt; omega
  have ry := h.wf.r0 ym (by omega)
  have rz := h.wf.r0 zm (by omega)
  have ra := h.wf.a0
  have rn := nextI_le s
  rw [← hvx] at rx
  rw [← hvy] at ry
  rw [← hvz] at rz
  rw [← hva] at ra
  rw [← hnx] at rn
  have fn : IntKind.u32.wrap (va + 4) = nx := by rw [IntKind.wrap_u32, hnx, hva]; rfl
  have fn2 : (va + 4) % 4294967296 = nx := by rw [hnx, hva]; rfl
  have cs : ∀ j, j < 16 → (w.alloc (.cells #[.int .u8 o, .int .u8 x, .int .u8 y, .int .u8 z] 24)).cell? ⟨gx, j, none⟩ = some (.int .u32 (s.R j)) := fun j hj => by rw [hh.rw.cell (i := j) (by omega)]; unfold stV; rw [if_pos hj]
  have cx := cs xm (by omega)
  have cy := cs ym (by omega)
  have cz := cs zm (by omega)
  rw [← hvx] at cx
  rw [← hvy] at cy
  rw [← hvz] at cz
  have c16 : (w.alloc (.cells #[.int .u8 o, .int .u8 x, .int .u8 y, .int .u8 z] 24)).cell? ⟨gx, 16, none⟩ = some (.int .u32 va) := by rw [hh.rw.cell (i := 16) (by omega), hva]; rfl
  have HXM := Lib.hid hxm
  have HYM := Lib.hid hym
  have HZM := Lib.hid hzm
  have HVX := Lib.hid hvx
  have HVY := Lib.hid hvy
  have HVZ := Lib.hid hvz
  have HNX := Lib.hid hnx
  have HB1 := Lib.hid hb1
  have HL1 := Lib.hid hl1
  have HH := Lib.hid hh
  have hof := fun w => opsOf_any (o : Int) (by omega) (by omega) w
  rw [Int.toNat_natCast] at hof
  obtain ⟨f, hf⟩ : ∃ f, f = formOf o := ⟨_, rfl⟩
  rw [← hf] at hof
  have HF := Lib.hid hf
  clear hb1 hl1 hh hxm hym hzm hvx hvy hvz hva hnx cs h
  have f4 : f = 4 := by rw [hf]; exact (by decide : ∀ n, n < 30 → 22 ≤ n → formOf n = 4) o (by omega) h22
  subst f4
  have hov : ofVal 4 = .tuple #[.int .u8 (4 : Nat), .bool true] := rfl
  rw [hov] at hof
  have g5 : ((o : Int) != 21) = true := by rw [bne_iff_ne]; omega
  have g5n : (o != 21) = true := by rw [bne_iff_ne]; omega
  have hnr := fun w => opsNear_any (o : Int) x y z (by omega) (by omega) w
  obtain ⟨nr, hnrv⟩ : ∃ k, k = near (z : Int) := ⟨_, rfl⟩
  rw [← hnrv] at hnr
  have hnr0 : -128 ≤ nr ∧ nr ≤ 127 := by rw [hnrv]; unfold near; split <;> omega
  obtain ⟨n1v, hn1v⟩ : ∃ n1v, n1v = nr % 4294967296 := ⟨_, rfl⟩
  have en1 : IntKind.u32.wrap nr = n1v := by rw [IntKind.wrap_u32, hn1v]
  obtain ⟨ad, had⟩ : ∃ ad : Nat, ad = ((vy + n1v) % 4294967296).toNat := ⟨_, rfl⟩
  have hadi : (ad : Int) = (vy + n1v) % 4294967296 := by rw [had]; exact Int.toNat_of_nonneg (by omega)
  have en2 : IntKind.u32.wrap (vy + n1v) = ad := by rw [IntKind.wrap_u32, hadi]
  have hadl : ad ≤ 4294967295 := by omega
  have hmm := fun (w1 : World) (h1 : MW w1 g gm gs base m gx a us v F s) => mem_all h1 o x y z h22 h29 hx ad hadl
  unfold MemP at hmm
  obtain ⟨me, hme⟩ : ∃ k, k = (memI m s o x ad).2 := ⟨_, rfl⟩
  rw [← hme] at hmm
  have HNR := Lib.hid hnr
  have HMM := Lib.hid hmm
  have HME := Lib.hid hme
  have HAD := Lib.hid (show ad = ((s.R (y % 16) + near z % 4294967296) % 4294967296).toNat from by rw [had, hn1v, hnrv, HVY.out, HYM.out])
  have hn1l : 0 ≤ n1v ∧ n1v ≤ 4294967295 := by omega
  have HO := Lib.hid (And.intro h22 h29)
  have hgg : ¬ mwS g gm gx w.heap.size := by
    have h1 := HH.out.gx_ne
    intro e
    rcases e with e | e | e
    · exact hgN e
    · exact hgN2 e
    · exact hgN3 e
  clear hnr hnrv hn1v had hadi hmm hme hf h22 h29 hov
  have HOF := Lib.hid hof
  clear hof
  go_enter Try.func26, Try.ntmps26
  go_wp2_with fail
  obtain ⟨N, hN⟩ : ∃ N, N = w.heap.size := ⟨_, rfl⟩
  rw [← hN] at hc ⊢
  have HN := Lib.hid hN
  generalize w.alloc (.cells #[.int .u8 o, .int .u8 x, .int .u8 y, .int .u8 z] 24) = w1 at *
  have HNM := Lib.hid (show ¬ mwS g gm gx N from by rw [hN]; exact hgg)
  clear hN hgg
  go_upto_region 2 with fail
  go_quiet (fail)
  go_wp2_with fail
  refine (HOF.out _).mono ?_
  rintro e w3 ⟨rfl, hb3⟩
  have hb13 : Below w1.heap.size w1 w3 := bnext (bdrewN (Below.refl _ _) nq) hb3
  have hl3 := bkeep hb13 HL1.out
  rw [← HN.out] at hl3
  have HL3 := Lib.hid hl3
  have HH3 := Lib.hid (HH.out.keep hb13)
  have HB3 := Lib.hid (bnext HB1.out hb13)
  clear hc cx cy cz c16 hb3 hb13
  have hc := rowcell hl3
  clear hl3
  go_wp2_with fail
  go_upto_region 11 with fail
  have hS0 : (fun w' : World => w'.heap[N]? = some (.cells #[.int .u8 o, .int .u8 x, .int .u8 y, .int .u8 z] 24 (0, 0))) (World.drew w3) := HL3.out
  clear hc
  refine wp_region_held (S := fun w' => w'.heap[N]? = some (.cells #[.int .u8 o, .int .u8 x, .int .u8 y, .int .u8 z] 24 (0, 0))) (by kernel_rfl) ?_
  change wpAnyH _ _ _ _ _ _ _ _ (World.drew _)
  refine takeH 0 (.pointer (some ⟨gx, 0, none⟩)) (some 86) rfl rfl (by kernel_rfl) (by kernel_rfl) (by kernel_rfl) (fun _ _ _ h => h) (.inl ⟨by kernel_rfl, fun w _ => by go_simp⟩) hS0 ?_
  refine takeH 1 (.pointer (some ⟨gs, 0, none⟩)) (some 87) rfl rfl (by kernel_rfl) (by kernel_rfl) (by kernel_rfl) (fun _ _ _ h => h) (.inl ⟨by kernel_rfl, fun w _ => by go_simp⟩) hS0 ?_
  refine takeH 2 (.agg #[.int .u8 o, .int .u8 x, .int .u8 y, .int .u8 z]) (some 88) rfl rfl (by kernel_rfl) (by kernel_rfl) (by kernel_rfl) (fun _ _ _ h => h) (yi_piece (by rfl) 24 (.tmp 5) rfl N 0 (by go_simp) #[.int .u8 o, .int .u8 x, .int .u8 y, .int .u8 z] _ (fun w' hw j v hj => by rw [rowcell hw, Nat.zero_add]; simpa using hj) Try.underlying24 rfl (by kernel_rfl)) hS0 ?_
  go_simp
  refine takeH 3 (.int .u32 vy) (some 89) rfl rfl (by kernel_rfl) (by kernel_rfl) (by kernel_rfl) (fun _ _ _ h => h) (.inl ⟨by kernel_rfl, fun w _ => by go_simp⟩) hS0 ?_
  refine takeH 4 (.agg #[.int .u8 o, .int .u8 x, .int .u8 y, .int .u8 z]) (some 90) rfl rfl (by kernel_rfl) (by kernel_rfl) (by kernel_rfl) (fun _ _ _ h => h) (yi_piece (by rfl) 24 (.tmp 5) rfl N 0 (by go_simp) #[.int .u8 o, .int .u8 x, .int .u8 y, .int .u8 z] _ (fun w' hw j v hj => by rw [rowcell hw, Nat.zero_add]; simpa using hj) Try.underlying24 rfl (by kernel_rfl)) hS0 ?_
  go_simp
  refine callH 5 rfl (by kernel_rfl) (by kernel_rfl) (some 91) rfl 44 #[.agg #[.int .u8 o, .int .u8 x, .int .u8 y, .int .u8 z]] ?hrun ((HNR.out _).mono ?_)
  case hrun => go_simp
  rintro e w4 ⟨he, hb4⟩
  have hS4 := bkeep hb4 hS0
  have hbg : Below w3.heap.size w3 w4 := (drewb w3).trans (hb4.mono (Nat.le_refl _))
  refine ⟨_, he, hS4, ?_⟩
  go_simp
  refine takeH 6 (.int .u32 n1v) (some 92) rfl rfl (by kernel_rfl) (by kernel_rfl) (by kernel_rfl) (fun _ _ _ h => h) (.inl ⟨by kernel_rfl, fun w _ => by go_simp⟩) hS4 ?_
  go_simp
  refine takeH 7 (.int .u32 ad) (some 93) rfl rfl (by kernel_rfl) (by kernel_rfl) (by kernel_rfl) (fun _ _ _ h => h) (.inl ⟨by kernel_rfl, fun w _ => by go_simp⟩) hS4 ?_
  go_simp
  refine callH 8 rfl (by kernel_rfl) (by kernel_rfl) (some 94) rfl 43 #[.pointer (some ⟨gx, 0, none⟩), .pointer (some ⟨gs, 0, none⟩), .agg #[.int .u8 o, .int .u8 x, .int .u8 y, .int .u8 z], .int .u32 ad] ?hrun ((HMM.out _ (HH3.out.keep hbg)).mono ?_)
  case hrun => go_simp
  rintro e w5 ⟨he, ⟨F', hm5⟩, hc5⟩
  have hS5 := hc5.blk hS4 HNM.out
  refine ⟨_, he, hS5, ?_⟩
  go_simp
  refine takeH 9 (.int .i64 me) (some 15) rfl rfl (by kernel_rfl) (by kernel_rfl) (by kernel_rfl) (fun _ _ _ h => h) (.inl ⟨by kernel_rfl, fun w _ => by go_simp⟩) hS5 ?_
  refine wpAnyH_done (by kernel_rfl) ?_ _
  go_simp
  have HM5 := Lib.hid hm5
  have HC5 := Lib.hid ((Chg.of_below (mwS g gm gx) HB3.out).trans ((Chg.of_below (mwS g gm gx) hbg).trans hc5 (fun _ _ h => h)) (fun _ _ h => h))
  have c16 : w5.cell? ⟨gx, 16, none⟩ = some (.int .u32 (memI m s o x ad).1.at_) := hm5.rw.cell (i := 16) (by omega)
  have cf := hm5.rw.frozen
  obtain ⟨q, hq⟩ : ∃ q, q = memI m s o x ad := ⟨_, rfl⟩
  rw [← hq] at c16 HM5
  have HQ := Lib.hid hq
  clear hS0 hS4 hS5 hbg hb4 hm5 hc5 he hq
  by_cases hz0 : me = 0
  · have q1 : (me != 0) = false := by rw [bne_eq_false_iff_eq]; exact hz0
    have HZ0 := Lib.hid hz0
    clear hz0
    go_wp2_with fail
    go_ret
    have o6 := one_setCell w5 gx 16 (.int .u32 nx)
    have hr6 := row_at HM5.out.rw nx
    have e1 : stepI m s o x y z = (setAt q.1 nx, 0) := by
      unfold stepI
      rw [if_neg (by have := HO.out; omega), if_pos HO.out, ← HAD.out, ← HME.out, if_pos HZ0.out, ← HQ.out, ← HNX.out]
    exact ⟨by rw [e1]; rfl, ⟨F', by rw [e1]; exact HM5.out.regs (chgOne (Chg.of_below _ (Below.refl _ _)) o6 (fun x e => .inl (by cases e; rfl))) hr6 rfl (HM5.out.wf.setAt nx rn.1 rn.2)⟩, chgOne HC5.out o6 (fun x e => .inl (.inl (by cases e; rfl)))⟩
  · have q1 : (me != 0) = true := by rw [bne_iff_ne]; exact hz0
    have HZ0 := Lib.hid hz0
    clear hz0
    go_wp2_with fail
    go_ret
    have hqs : q.1 = s := by rw [HQ.out]; exact memI_err (by rw [← HME.out]; exact HZ0.out)
    have e1 : stepI m s o x y z = (s, me) := by
      unfold stepI
      rw [if_neg (by have := HO.out; omega), if_pos HO.out, ← HAD.out, ← HME.out, if_neg HZ0.out]
    exact ⟨by rw [e1]; rfl, ⟨F', by rw [e1, ← hqs]; exact HM5.out⟩, HC5.out⟩
end Go.Proofs.Ytapcbfeifeobhaa

set_option linter.unusedVariables false
set_option linter.unusedSimpArgs false
namespace Go.Proofs.Ytapcbfeifeobhaa
open Go.RowKit
/-- Where the next instruction stands. -/
def pcN (s : Mach) : Nat := s.at_.toNat
def insB (s : Mach) (k : Nat) : Nat := s.mem (pcN s + k)
theorem ldN_four (mem : Nat → Nat) (a : Nat) : ldN mem a 4 = mem a + 256 * mem (a + 1) + 65536 * mem (a + 2) + 16777216 * mem (a + 3) := by
  show 0 + mem (a + 0) * 256 ^ 0 + mem (a + 1) * 256 ^ 1 + mem (a + 2) * 256 ^ 2 + mem (a + 3) * 256 ^ 3 = _
  rw [Nat.add_zero]
  omega
theorem insLoad (w : World) (N : Nat) (cs : Array Value) (h : w.heap[N]? = some (.cells cs 24 (0, 0))) (hs : cs.size = 4) : (loadVar 24 ⟨N, 0, none⟩).run Try.prog w = .ok (.agg cs) w :=
  run_loadVar_piece w 24 N 0 cs _ (fun j v hv => by rw [Nat.zero_add, rowcell h]; simpa using hv) Try.underlying24 rfl (by rw [hs]; kernel_rfl)
section
variable {w : World} {g gm gs base m gx : Nat} {a : Option Addr} {us : Nat → Nat} {v : Value} {F : Nat × Nat → Option (Nat → Nat)} {s : Mach}
set_option maxRecDepth 20000 in
set_option maxHeartbeats 4000000 in
theorem fetch_no (h : MW w g gm gs base m gx a us v F s) (hin : ¬ pcN s + 4 ≤ 64 * m) :
    Calls Try.prog 25 #[.pointer (some ⟨gx, 0, none⟩), .pointer (some ⟨gs, 0, none⟩)] w fun e w' => e = .returned (.tuple #[.agg #[.int .u8 0, .int .u8 0, .int .u8 0, .int .u8 0], .int .i64 20]) ∧ Below w.heap.size w w' := by
  have hb1 := bnew w (.cells #[.int .u8 0, .int .u8 0, .int .u8 0, .int .u8 0] 24)
  have hl1 := heap_alloc_last w (.cells #[.int .u8 0, .int .u8 0, .int .u8 0, .int .u8 0] 24)
  have hh := h.keep hb1
  obtain ⟨p, hp⟩ : ∃ p, p = pcN s := ⟨_, rfl⟩
  have hat : (p : Int) = s.at_ := by rw [hp]; exact Int.toNat_of_nonneg h.wf.a0.1
  rw [← hp] at hin
  have hal : p ≤ 4294967295 := by have := h.wf.a0.2; omega
  have hm32 := h.m32
  have HNO := Lib.hid (fun (w1 : World) (h1 : MW w1 g gm gs base m gx a us v F s) => spaceLoad_no h1.sp h1.ok.len p hal (4 : Nat) (by omega) (by omega) (by rw [h1.len, insideB_nat]; exact decide_eq_false hin))
  have c16 : (w.alloc (.cells #[.int .u8 0, .int .u8 0, .int .u8 0, .int .u8 0] 24)).cell? ⟨gx, 16, none⟩ = some (.int .u32 p) := by rw [hh.rw.cell (i := 16) (by omega), hat]; rfl
  have HB1 := Lib.hid hb1
  have HH := Lib.hid hh
  have hc := rowcell hl1
  have hcf := rowfree hl1
  clear hb1 hh h hat hin hp hl1
  go_enter Try.func25, Try.ntmps25
  go_wp2_with fail
  refine (HNO.out _ HH.out).mono ?_
  rintro e w2 ⟨rfl, rfl⟩
  go_wp2_with fail
  have hrun := insLoad _ w.heap.size #[.int .u8 0, .int .u8 0, .int .u8 0, .int .u8 0] (heap_alloc_last w (.cells #[.int .u8 0, .int .u8 0, .int .u8 0, .int .u8 0] 24)) rfl
  exact bodyPost_ret (v := .tuple #[.agg #[.int .u8 0, .int .u8 0, .int .u8 0, .int .u8 0], .int .i64 20]) (by simp [results, Try.results25, Act.put, asAddr, hrun]) rfl ⟨rfl, HB1.out⟩
set_option maxRecDepth 20000 in
set_option maxHeartbeats 8000000 in
theorem fetch_ok (h : MW w g gm gs base m gx a us v F s) (hin : pcN s + 4 ≤ 64 * m) :
    Calls Try.prog 25 #[.pointer (some ⟨gx, 0, none⟩), .pointer (some ⟨gs, 0, none⟩)] w fun e w' => e = .returned (.tuple #[.agg #[.int .u8 (insB s 0), .int .u8 (insB s 1), .int .u8 (insB s 2), .int .u8 (insB s 3)], .int .i64 (checkI (formOf (insB s 0)) (insB s 1) (insB s 2) (insB s 3))]) ∧ Below w.heap.size w w' := by
  have hb1 := bnew w (.cells #[.int .u8 0, .int .u8 0, .int .u8 0, .int .u8 0] 24)
  have hl1 := heap_alloc_last w (.cells #[.int .u8 0, .int .u8 0, .int .u8 0, .int .u8 0] 24)
  have hh := h.keep hb1
  obtain ⟨p, hp⟩ : ∃ p, p = pcN s := ⟨_, rfl⟩
  have hat : (p : Int) = s.at_ := by rw [hp]; exact Int.toNat_of_nonneg h.wf.a0.1
  rw [← hp] at hin
  have hal : p ≤ 4294967295 := by have := h.wf.a0.2; omega
  have hm32 := h.m32
  have hI : ∀ k, k < 4 → insB s k = spMem F (morePs 0 0 m) (p + k) ∧ insB s k ≤ 255 := fun k hk => by
    unfold insB
    rw [← hp]
    have h1 := h.wf.m0 (p + k) (by omega)
    exact ⟨h.mm _ (by omega), by omega⟩
  obtain ⟨i0, u0⟩ := hI 0 (by omega)
  obtain ⟨i1, u1⟩ := hI 1 (by omega)
  obtain ⟨i2, u2⟩ := hI 2 (by omega)
  obtain ⟨i3, u3⟩ := hI 3 (by omega)
  obtain ⟨o, ho⟩ : ∃ o, o = insB s 0 := ⟨_, rfl⟩
  obtain ⟨x, hx⟩ : ∃ o, o = insB s 1 := ⟨_, rfl⟩
  obtain ⟨y, hy⟩ : ∃ o, o = insB s 2 := ⟨_, rfl⟩
  obtain ⟨z, hz⟩ : ∃ o, o = insB s 3 := ⟨_, rfl⟩
  have hn : ldN (spMem F (morePs 0 0 m)) p 4 = o + 256 * x + 65536 * y + 16777216 * z := by rw [ldN_four, ← i1, ← i2, ← i3, ← hx, ← hy, ← hz, ho, i0]; rfl
  rw [← ho, ← hx, ← hy, ← hz]
  rw [← ho] at u0
  rw [← hx] at u1
  rw [← hy] at u2
  rw [← hz] at u3
  have hld := fun (w1 : World) (h1 : MW w1 g gm gs base m gx a us v F s) => spaceLoad_val h1.tp h1.sp h1.ok p 4 hal (by omega) (by rw [h1.len]; exact hin) h1.b255
  rw [hn] at hld
  obtain ⟨nn, hnn⟩ : ∃ nn, nn = o + 256 * x + 65536 * y + 16777216 * z := ⟨_, rfl⟩
  rw [← hnn] at hld
  have hby := fun w => opsBytes_any (nn : Int) (by omega) (by omega) w
  rw [show (nn : Int) % 256 = o by omega, show (nn : Int) / 256 % 256 = x by omega, show (nn : Int) / 65536 % 256 = y by omega, show (nn : Int) / 16777216 % 256 = z by omega] at hby
  have HLD := Lib.hid hld
  have HBY := Lib.hid hby
  have HUN := Lib.hid (fun w => opsUnpack_any (o : Int) x y z w)
  have hck := fun w => opsCheck_any (o : Int) x y z ⟨by omega, by omega⟩ ⟨by omega, by omega⟩ ⟨by omega, by omega⟩ ⟨by omega, by omega⟩ w
  rw [Int.toNat_natCast] at hck
  obtain ⟨ck, hckv⟩ : ∃ ck, ck = checkI (formOf o) x y z := ⟨_, rfl⟩
  rw [← hckv] at hck ⊢
  have HCK := Lib.hid hck
  have c16 : (w.alloc (.cells #[.int .u8 0, .int .u8 0, .int .u8 0, .int .u8 0] 24)).cell? ⟨gx, 16, none⟩ = some (.int .u32 p) := by rw [hh.rw.cell (i := 16) (by omega), hat]; rfl
  have HB1 := Lib.hid hb1
  have HH := Lib.hid hh
  have HL1 := Lib.hid hl1
  have hc := rowcell hl1
  clear hb1 hh h hat hin hp hl1 hld hby hck hckv hn hnn i0 i1 i2 i3 ho hx hy hz hI
  go_enter Try.func25, Try.ntmps25
  go_wp2_with fail
  obtain ⟨N4, hN4⟩ : ∃ N, N = w.heap.size := ⟨_, rfl⟩
  rw [← hN4] at hc ⊢
  have HN4 := Lib.hid hN4
  generalize w.alloc (.cells #[.int .u8 0, .int .u8 0, .int .u8 0, .int .u8 0] 24) = w1 at *
  clear hN4
  refine (HLD.out _ HH.out).mono ?_
  rintro e w2 ⟨rfl, hb2⟩
  have HB2 := Lib.hid hb2
  clear hb2 hc c16
  go_wp2_with fail
  refine (HBY.out _).mono ?_
  rintro e w3 ⟨rfl, hb3⟩
  have HB3 := Lib.hid (bnext HB2.out hb3)
  clear hb3
  go_wp2_with fail
  refine (HUN.out _).mono ?_
  rintro e w4 ⟨rfl, hb4⟩
  have HB4 := Lib.hid (bnext HB3.out hb4)
  clear hb4
  go_upto_region 5 with fail
  have hb5 := bnew w4 (.cells #[.int .u8 o, .int .u8 x, .int .u8 y, .int .u8 z] 24)
  have hl5 := heap_alloc_last w4 (.cells #[.int .u8 o, .int .u8 x, .int .u8 y, .int .u8 z] 24)
  have h45 := bkeep hb5 (bkeep HB4.out (by rw [HN4.out]; exact HL1.out : w1.heap[N4]? = _))
  have hN48 : N4 ≠ w4.heap.size := by have := rowlt (bkeep HB4.out (by rw [HN4.out]; exact HL1.out : w1.heap[N4]? = _)); omega
  obtain ⟨N8, hN8⟩ : ∃ N, N = w4.heap.size := ⟨_, rfl⟩
  rw [← hN8] at hl5 hN48 ⊢
  have HB5 := Lib.hid (bnext HB4.out hb5)
  clear hN8 hb5
  generalize w4.alloc (.cells #[.int .u8 o, .int .u8 x, .int .u8 y, .int .u8 z] 24) = w5 at *
  have hS0 : (fun w' : World => w'.heap[N8]? = some (.cells #[.int .u8 o, .int .u8 x, .int .u8 y, .int .u8 z] 24 (0, 0))) (World.drew w5) := hl5
  have HL45 := Lib.hid (show (World.drew w5).heap[N4]? = _ from h45)
  clear hl5 h45
  refine wp_region_held (S := fun w' => w'.heap[N8]? = some (.cells #[.int .u8 o, .int .u8 x, .int .u8 y, .int .u8 z] 24 (0, 0))) (by kernel_rfl) ?_
  change wpAnyH _ _ _ _ _ _ _ _ (World.drew _)
  refine takeH 0 (.agg #[.int .u8 o, .int .u8 x, .int .u8 y, .int .u8 z]) (some 25) rfl rfl (by kernel_rfl) (by kernel_rfl) (by kernel_rfl) (fun _ _ _ h => h) (yi_piece (by rfl) 24 (.tmp 8) rfl N8 0 (by go_simp) #[.int .u8 o, .int .u8 x, .int .u8 y, .int .u8 z] _ (fun w' hw j v hj => by rw [rowcell hw, Nat.zero_add]; simpa using hj) Try.underlying24 rfl (by kernel_rfl)) hS0 ?_
  refine takeH 1 (.agg #[.int .u8 o, .int .u8 x, .int .u8 y, .int .u8 z]) (some 26) rfl rfl (by kernel_rfl) (by kernel_rfl) (by kernel_rfl) (fun _ _ _ h => h) (yi_piece (by rfl) 24 (.tmp 8) rfl N8 0 (by go_simp) #[.int .u8 o, .int .u8 x, .int .u8 y, .int .u8 z] _ (fun w' hw j v hj => by rw [rowcell hw, Nat.zero_add]; simpa using hj) Try.underlying24 rfl (by kernel_rfl)) hS0 ?_
  go_simp
  refine callH 2 rfl (by kernel_rfl) (by kernel_rfl) (some 27) rfl 40 #[.agg #[.int .u8 o, .int .u8 x, .int .u8 y, .int .u8 z]] ?hrun ((HCK.out _).mono ?_)
  case hrun => go_simp
  rintro e w6 ⟨he, hb6⟩
  have hS6 := bkeep hb6 hS0
  have h46 := bkeep hb6 HL45.out
  refine ⟨_, he, hS6, ?_⟩
  go_simp
  refine runSkipH 3 (w' := w6.setCells N4 0 [.int .u8 o, .int .u8 x, .int .u8 y, .int .u8 z]) rfl (by kernel_rfl) (by kernel_rfl) rfl (exec_store_agg 24 _ _ rfl N4 0 #[.int .u8 o, .int .u8 x, .int .u8 y, .int .u8 z] (by go_simp) (by go_simp) (by kernel_rfl) (fun j hj => by rw [Nat.zero_add, rowcell h46, Array.getElem?_eq_getElem (by simpa using hj)]; rfl) (fun j _ => rowfree h46 _) (fun v hv => by simp at hv; rcases hv with rfl | rfl | rfl | rfl <;> rfl)) ?_ ?_
  · exact (One.setCells [.int .u8 o, .int .u8 x, .int .u8 y, .int .u8 z] 0 (One.refl w6 (some N4))).blk hS6 (fun e => by cases e; exact hN48 rfl)
  obtain ⟨e9, o9⟩ := setCells_whole (cs := #[.int .u8 o, .int .u8 x, .int .u8 y, .int .u8 z]) h46 rfl
  change (w6.setCells N4 0 [.int .u8 o, .int .u8 x, .int .u8 y, .int .u8 z]).heap[N4]? = _ at e9
  change One w6 (w6.setCells N4 0 [.int .u8 o, .int .u8 x, .int .u8 y, .int .u8 z]) _ at o9
  have hS7 := o9.blk hS6 (fun e => by cases e; exact hN48 rfl)
  go_simp
  refine takeH 4 (.int .i64 ck) (some 5) rfl rfl (by kernel_rfl) (by kernel_rfl) (by kernel_rfl) (fun _ _ _ h => h) (.inl ⟨by kernel_rfl, fun w _ => by go_simp⟩) hS7 ?_
  refine wpAnyH_done (by kernel_rfl) ?_ _
  go_simp
  have hrun := insLoad (w6.setCells N4 0 [.int .u8 o, .int .u8 x, .int .u8 y, .int .u8 z]) N4 #[.int .u8 o, .int .u8 x, .int .u8 y, .int .u8 z] e9 rfl
  have hbw : Below w.heap.size w (w6.setCells N4 0 [.int .u8 o, .int .u8 x, .int .u8 y, .int .u8 z]) := by
    have h7 : Below w.heap.size w w6 := bnext (bnext HB1.out HB5.out) ((drewb w5).trans (hb6.mono (Nat.le_refl _)))
    exact bone h7 o9 (by rw [HN4.out]; exact Nat.le_refl _) h7.size
  go_wp2_with fail
  exact bodyPost_ret (v := .tuple #[.agg #[.int .u8 o, .int .u8 x, .int .u8 y, .int .u8 z], .int .i64 ck]) (by simp [results, Try.results25, Act.put, asAddr, hrun]) rfl ⟨rfl, hbw⟩
end
end Go.Proofs.Ytapcbfeifeobhaa

set_option linter.unusedVariables false
set_option linter.unusedSimpArgs false
namespace Go.Proofs.Ytapcbfeifeobhaa
open Go.RowKit
/-- The next instruction: is it right? -/
def ckI (s : Mach) : Int := checkI (formOf (insB s 0)) (insB s 1) (insB s 2) (insB s 3)
/-- One instruction. -/
def stI (m : Nat) (s : Mach) : Mach × Out :=
  if pcN s + 4 ≤ 64 * m then
    (if ckI s = 0 then
      (if insB s 0 = 39 then (setAt s (nextI s), .ask (insB s 2))
       else if (stepI m s (insB s 0) (insB s 1) (insB s 2) (insB s 3)).2 = 0 then ((stepI m s (insB s 0) (insB s 1) (insB s 2) (insB s 3)).1, .go)
       else (s, .flt (stepI m s (insB s 0) (insB s 1) (insB s 2) (insB s 3)).2.toNat))
     else (s, .flt (ckI s).toNat))
  else (s, .flt 20)
theorem checkI_ways (f : Nat) (x y z : Int) : checkI f x y z = 0 ∨ checkI f x y z = 28 ∨ checkI f x y z = 32 := by
  unfold checkI
  by_cases h : 8 < f
  · rw [if_pos h]; exact .inr (.inr rfl)
  · rw [if_neg h]
    by_cases c : checkOk f x y z = true
    · rw [if_pos c]; exact .inl rfl
    · rw [if_neg c]; exact .inr (.inl rfl)
theorem checkOk_x {f : Nat} {x y z : Nat} (hf : f ≤ 8) (h : checkOk f x y z = true) : x < 16 := by
  rcases (show f = 0 ∨ f = 1 ∨ f = 2 ∨ f = 3 ∨ f = 4 ∨ f = 5 ∨ f = 6 ∨ f = 7 ∨ f = 8 by omega) with rfl | rfl | rfl | rfl | rfl | rfl | rfl | rfl | rfl
  all_goals
    simp only [checkOk, Bool.and_eq_true, Bool.or_eq_true, decide_eq_true_eq] at h
    omega
theorem chk {o x y z : Nat} (h : checkI (formOf o) x y z = 0) : 1 ≤ o ∧ o < 40 ∧ x < 16 ∧ (o = 36 → z = 8 ∨ z = 16) := by
  unfold checkI at h
  by_cases h8 : 8 < formOf o
  · rw [if_pos h8] at h; omega
  · rw [if_neg h8] at h
    by_cases c : checkOk (formOf o) x y z = true
    · have o40 : o < 40 := Nat.lt_of_not_le (fun e => by rw [formOf_hi o e] at h8; omega)
      have o1 : 1 ≤ o := by
        rcases Nat.eq_zero_or_pos o with rfl | e
        · exact absurd (show 8 < formOf 0 by decide) h8
        · exact e
      refine ⟨o1, o40, checkOk_x (by omega) c, fun e => ?_⟩
      subst e
      have c' : checkOk 7 x y z = true := c
      simp only [checkOk, Bool.and_eq_true, Bool.or_eq_true, decide_eq_true_eq] at c'
      omega
    · rw [if_neg c] at h; omega
theorem plainO_rest : ∀ o, o < 39 → 1 ≤ o → ¬ (5 ≤ o ∧ o ≤ 20) → ¬ (22 ≤ o ∧ o ≤ 29) → plainO o = true := by decide
section
variable {w : World} {g gm gs base m gx : Nat} {a : Option Addr} {us : Nat → Nat} {v : Value} {F : Nat × Nat → Option (Nat → Nat)} {s : Mach}
theorem step_all (h : MW w g gm gs base m gx a us v F s) (o x y z : Nat) (hck : checkI (formOf o) x y z = 0) (h39 : o ≠ 39) (hy : y ≤ 255) (hz : z ≤ 255) :
    Calls Try.prog 26 #[.pointer (some ⟨gx, 0, none⟩), .pointer (some ⟨gs, 0, none⟩), .agg #[.int .u8 o, .int .u8 x, .int .u8 y, .int .u8 z]] w (StepP g gm gs base m gx a us v s o x y z w) := by
  obtain ⟨h1, h2, h3, h4⟩ := chk hck
  by_cases c : 5 ≤ o ∧ o ≤ 20
  · exact step_num h o x y z (by omega) c.1 c.2 h3 hy hz
  · by_cases d : 22 ≤ o ∧ o ≤ 29
    · exact step_mem h o x y z (by omega) d.1 d.2 h3 hy hz
    · exact step_plain h o x y z (by omega) (plainO_rest o (by omega) h1 c d) h4 h3 hy hz
end
theorem numI_err (o : Nat) (a b : Int) : (numI o a b).2 = 0 ∨ (numI o a b).2 = 31 := by
  have key : ∀ p : Int × Int, p = numI o a b → p.2 = 0 ∨ p.2 = 31 := fun p hp => by
    unfold numI at hp
    by_cases c1 : o = 5
    · rw [if_pos c1] at hp; subst hp; exact .inl rfl
    rw [if_neg c1] at hp
    by_cases c2 : o = 6
    · rw [if_pos c2] at hp; subst hp; exact .inl rfl
    rw [if_neg c2] at hp
    by_cases c3 : o = 7
    · rw [if_pos c3] at hp; subst hp; exact .inl rfl
    rw [if_neg c3] at hp
    by_cases c4 : o = 11
    · rw [if_pos c4] at hp; subst hp; exact .inl rfl
    rw [if_neg c4] at hp
    by_cases c5 : o = 12
    · rw [if_pos c5] at hp; subst hp; exact .inl rfl
    rw [if_neg c5] at hp
    by_cases c6 : o = 13
    · rw [if_pos c6] at hp; subst hp; exact .inl rfl
    rw [if_neg c6] at hp
    by_cases c7 : o = 14
    · rw [if_pos c7] at hp; subst hp; exact .inl rfl
    rw [if_neg c7] at hp
    by_cases c8 : o = 15
    · rw [if_pos c8] at hp; subst hp; exact .inl rfl
    rw [if_neg c8] at hp
    by_cases c9 : o = 16
    · rw [if_pos c9] at hp; subst hp; exact .inl rfl
    rw [if_neg c9] at hp
    by_cases c10 : o = 17
    · rw [if_pos c10] at hp; subst hp; exact .inl rfl
    rw [if_neg c10] at hp
    by_cases c11 : o = 18
    · rw [if_pos c11] at hp; subst hp; exact .inl rfl
    rw [if_neg c11] at hp
    by_cases c12 : o = 19
    · rw [if_pos c12] at hp; subst hp; exact .inl rfl
    rw [if_neg c12] at hp
    by_cases c13 : o = 20
    · rw [if_pos c13] at hp; subst hp; exact .inl rfl
    rw [if_neg c13] at hp
    by_cases c14 : b = 0
    · rw [if_pos c14] at hp; subst hp; exact .inr rfl
    rw [if_neg c14] at hp
    by_cases c15 : o = 8
    · rw [if_pos c15] at hp; subst hp; exact .inl rfl
    rw [if_neg c15] at hp
    by_cases c16 : o = 9
    · rw [if_pos c16] at hp; subst hp; exact .inl rfl
    rw [if_neg c16] at hp
    subst hp
    exact .inl rfl
  exact key _ rfl
theorem memI_ways (m : Nat) (s : Mach) (o x a : Nat) : (memI m s o x a).2 = 0 ∨ (memI m s o x a).2 = 20 := by
  unfold memI
  by_cases c : 64 * m < a + bytesN o
  · rw [if_pos c]; exact .inr rfl
  · rw [if_neg c]
    by_cases d : o = 27 ∨ o = 28 ∨ o = 29
    · rw [if_pos d]; exact .inl rfl
    · rw [if_neg d]; exact .inl rfl
/-- An instruction that can't be done changes nothing; its error's number. -/
theorem stepI_err (m : Nat) (s : Mach) (o x y z : Nat) : (stepI m s o x y z).2 = 0 ∨ (0 < (stepI m s o x y z).2 ∧ (stepI m s o x y z).2 ≤ 31 ∧ (stepI m s o x y z).1 = s) := by
  unfold stepI
  by_cases c : 5 ≤ o ∧ o ≤ 20
  · rw [if_pos c]
    by_cases d : (numI o (s.R (y % 16)) (s.R (z % 16))).2 = 0
    · rw [if_pos d]; exact .inl rfl
    · rw [if_neg d]
      rcases numI_err o (s.R (y % 16)) (s.R (z % 16)) with e | e
      · exact absurd e d
      · exact .inr ⟨by show 0 < (numI o (s.R (y % 16)) (s.R (z % 16))).2; omega, by show (numI o (s.R (y % 16)) (s.R (z % 16))).2 ≤ 31; omega, rfl⟩
  · rw [if_neg c]
    by_cases c2 : 22 ≤ o ∧ o ≤ 29
    · rw [if_pos c2]
      obtain ⟨ad, had⟩ : ∃ ad, ad = ((s.R (y % 16) + near z % 4294967296) % 4294967296).toNat := ⟨_, rfl⟩
      rw [← had]
      by_cases d : (memI m s o x ad).2 = 0
      · rw [if_pos d]; exact .inl rfl
      · rw [if_neg d]
        rcases memI_ways m s o x ad with e | e
        · exact absurd e d
        · exact .inr ⟨by show 0 < (memI m s o x ad).2; omega, by show (memI m s o x ad).2 ≤ 31; omega, rfl⟩
    · rw [if_neg c2]; exact .inl rfl
/-- What can't be done changes nothing. -/
theorem stI_flt (m : Nat) (s s' : Mach) (e : Nat) (h : stI m s = (s', .flt e)) : s' = s := by
  unfold stI at h
  by_cases c : pcN s + 4 ≤ 64 * m
  · rw [if_pos c] at h
    by_cases d : ckI s = 0
    · rw [if_pos d] at h
      by_cases f : insB s 0 = 39
      · rw [if_pos f] at h; injection h with _ h; cases h
      · rw [if_neg f] at h
        by_cases k : (stepI m s (insB s 0) (insB s 1) (insB s 2) (insB s 3)).2 = 0
        · rw [if_pos k] at h; injection h with _ h; cases h
        · rw [if_neg k] at h; injection h with h _; exact h.symm
    · rw [if_neg d] at h; injection h with h _; exact h.symm
  · rw [if_neg c] at h; injection h with h _; exact h.symm
end Go.Proofs.Ytapcbfeifeobhaa

set_option linter.unusedVariables false
set_option linter.unusedSimpArgs false
namespace Go.Proofs.Ytapcbfeifeobhaa
open Go.RowKit
def endA (p : Nat × Nat × Nat) : Array Value := #[.int .u8 p.1, .int .i64 p.2.1, .int .i64 p.2.2]
theorem endLoad (w : World) (N : Nat) (cs : Array Value) (h : w.heap[N]? = some (.cells cs 43 (0, 0))) (hs : cs.size = 3) : (loadVar 43 ⟨N, 0, none⟩).run Try.prog w = .ok (.agg cs) w :=
  run_loadVar_piece w 43 N 0 cs _ (fun j v hv => by rw [Nat.zero_add, rowcell h]; simpa using hv) Try.underlying43 rfl (by rw [hs]; kernel_rfl)
def RunP (g gm gs base m gx : Nat) (a : Option Addr) (us : Nat → Nat) (v : Value) (s : Mach) (b : Nat) (w : World) (e : Ending) (w' : World) : Prop :=
  e = .returned (.agg (endA (runM (stI m) b 0 s).2)) ∧ (∃ F', MW w' g gm gs base m gx a us v F' (runM (stI m) b 0 s).1) ∧ Chg (mwS g gm gx) w w'
section
variable {w w' : World} {g gm gs base m gx : Nat} {a : Option Addr} {us : Nat → Nat} {v : Value} {F : Nat × Nat → Option (Nat → Nat)} {s : Mach}
/-- A block of another kind turns. -/
theorem MW.endB (h : MW w g gm gs base m gx a us v F s) {N : Nat} (o : One w w' (some N)) (hN : N ≠ gx ∧ N ≠ g ∧ N ≠ gm ∧ N ≠ gs ∧ v.ownBlock ≠ some N) : MW w' g gm gs base m gx a us v F s := by
  have c := Chg.of_one (S := fun k => k = N) o rfl
  exact ⟨pt_chg h.tp c (fun e => hN.2.1 e.symm) (fun e => hN.2.2.1 e.symm), h.sp.chg c (fun e => hN.2.2.2.1 e.symm) (fun x hx e => hN.2.2.2.2 (by rw [← e]; exact hx)), h.ok, h.mm, h.rw.of_block (o.block gx h.rw.lt (fun e => hN.1 (by injection e))), h.wf⟩
theorem stI_no (hin : ¬ pcN s + 4 ≤ 64 * m) : stI m s = (s, .flt 20) := by unfold stI; rw [if_neg hin]
theorem stI_ck (hin : pcN s + 4 ≤ 64 * m) (hck : ckI s ≠ 0) : stI m s = (s, .flt (ckI s).toNat) := by unfold stI; rw [if_pos hin, if_neg hck]
theorem stI_ask (hin : pcN s + 4 ≤ 64 * m) (hck : ckI s = 0) (h39 : insB s 0 = 39) : stI m s = (setAt s (nextI s), .ask (insB s 2)) := by unfold stI; rw [if_pos hin, if_pos hck, if_pos h39]
theorem stI_go (hin : pcN s + 4 ≤ 64 * m) (hck : ckI s = 0) (h39 : insB s 0 ≠ 39) (he : (stepI m s (insB s 0) (insB s 1) (insB s 2) (insB s 3)).2 = 0) : stI m s = ((stepI m s (insB s 0) (insB s 1) (insB s 2) (insB s 3)).1, .go) := by unfold stI; rw [if_pos hin, if_pos hck, if_neg h39, if_pos he]
theorem stI_er (hin : pcN s + 4 ≤ 64 * m) (hck : ckI s = 0) (h39 : insB s 0 ≠ 39) (he : (stepI m s (insB s 0) (insB s 1) (insB s 2) (insB s 3)).2 ≠ 0) : stI m s = (s, .flt (stepI m s (insB s 0) (insB s 1) (insB s 2) (insB s 3)).2.toNat) := by unfold stI; rw [if_pos hin, if_pos hck, if_neg h39, if_neg he]
set_option maxRecDepth 20000 in
set_option maxHeartbeats 8000000 in
theorem run_any (h : MW w g gm gs base m gx a us v F s) (bud : Int) (b : Nat) (hb : b ≤ 65536) (hbud : (bud < 0 ∧ b = 0) ∨ (0 ≤ bud ∧ bud ≤ 65536 ∧ bud = b) ∨ (65536 < bud ∧ b = 65536)) :
    Calls Try.prog 12 #[.pointer (some ⟨gx, 0, none⟩), .pointer (some ⟨gs, 0, none⟩), .int .i64 bud] w (RunP g gm gs base m gx a us v s b w) := by
  have hb1 := bnew w (.cells #[.int .u8 0, .int .i64 0, .int .i64 0] 43)
  have hl1 := heap_alloc_last w (.cells #[.int .u8 0, .int .i64 0, .int .i64 0] 43)
  have hh := h.keep hb1
  have HN6 := Lib.hid (show w.heap.size ≠ gx ∧ w.heap.size ≠ g ∧ w.heap.size ≠ gm ∧ w.heap.size ≠ gs ∧ v.ownBlock ≠ some w.heap.size from by
    have h1 := h.rw.lt
    have h2 := h.tp.row.lt
    have h3 := h.tp.mp.lt
    have h4 := h.sp.row.lt
    refine ⟨by omega, by omega, by omega, by omega, fun e => ?_⟩
    have h5 := rowlt (own_blk h.sp.ov e).2.choose_spec
    omega)
  have HB1 := Lib.hid (Chg.of_below (mwS g gm gx) hb1)
  have HL1 := Lib.hid hl1
  have HH := Lib.hid hh
  clear hb1 hl1 hh h
  go_enter Try.func12, Try.ntmps12
  go_upto_region 3 with fail
  obtain ⟨N6, hN6⟩ : ∃ N, N = w.heap.size := ⟨_, rfl⟩
  rw [← hN6] at HN6 HL1 ⊢
  have HNS := Lib.hid (show w.heap.size = N6 from hN6.symm)
  generalize w.alloc (.cells #[.int .u8 0, .int .i64 0, .int .i64 0] 43) = w1 at *
  clear hN6
  have HBUD := Lib.hid hbud
  clear hbud
  go_cut [2] (fun s2 wx => s2 = .int .i64 b ∧ wx = w1)
  case first =>
    rcases HBUD.out with ⟨h1, h2⟩ | ⟨h1, h2, h3⟩ | ⟨h1, h2⟩
    · subst h2
      have q1 : ¬ (0 : Int) ≤ bud := by omega
      have q2 : ¬ (0 : Int) < bud := by omega
      have q3 : bud ≤ 0 := by omega
      go_wp2_with fail
      go_meet
      exact ⟨rfl, rfl⟩
    · subst h3
      go_wp2_with fail
      go_meet
      exact ⟨rfl, rfl⟩
    · subst h2
      have q1 : (0 : Int) ≤ bud := by omega
      have q2 : (0 : Int) < bud := by omega
      have q3 : ¬ bud ≤ 65536 := by omega
      have q4 : ¬ bud < 65536 := by omega
      have q5 : (65536 : Int) ≤ bud := by omega
      go_wp2_with fail
      go_meet
      exact ⟨rfl, rfl⟩
  case rest =>
    obtain ⟨rfl, rfl⟩ := hcut
    go_at_K
    go_step
    go_wp2_with fail
    go_loopw [22] (fun r wx => ∃ (j : Nat) (s1 : Mach) (F1 : Nat × Nat → Option (Nat → Nat)), j ≤ b ∧ r = .int .i64 j ∧ MW wx g gm gs base m gx a us v F1 s1 ∧ wx.heap[N6]? = some (.cells #[.int .u8 0, .int .i64 0, .int .i64 0] 43 (0, 0)) ∧ Chg (mwS g gm gx) w wx ∧ runM (stI m) b 0 s = runM (stI m) (b - j) j s1) (fun r _ => b - (intOf r).toNat)
    case atStart => exact ⟨0, s, F, Nat.zero_le _, rfl, HH.out, HL1.out, HB1.out, rfl⟩
    case round =>
      obtain ⟨j, s1, F1, hj, rfl, hmw, h6, hch, hrun⟩ := hrel
      have HMW := Lib.hid hmw
      have H6 := Lib.hid h6
      have HCH := Lib.hid hch
      have HRUN := Lib.hid hrun
      clear hmw h6 hch hrun
      by_cases hjb : j < b
      · have f1 : (j : Int) < b := by omega
        have HJ := Lib.hid (show b - j = (b - j - 1) + 1 by omega)
        by_cases hin : pcN s1 + 4 ≤ 64 * m
        · have hft := fetch_ok HMW.out hin
          obtain ⟨o, ho⟩ : ∃ k, k = insB s1 0 := ⟨_, rfl⟩
          obtain ⟨x, hx⟩ : ∃ k, k = insB s1 1 := ⟨_, rfl⟩
          obtain ⟨y, hy⟩ : ∃ k, k = insB s1 2 := ⟨_, rfl⟩
          obtain ⟨z, hz⟩ : ∃ k, k = insB s1 3 := ⟨_, rfl⟩
          have hbnd : ∀ k, k < 4 → insB s1 k ≤ 255 := fun k hk => by have := HMW.out.wf.m0 (pcN s1 + k) (by omega); unfold insB; omega
          have uo := hbnd 0 (by omega)
          have uy := hbnd 2 (by omega)
          have uz := hbnd 3 (by omega)
          obtain ⟨ck, hck⟩ : ∃ k, k = ckI s1 := ⟨_, rfl⟩
          rw [show checkI (formOf (insB s1 0)) (insB s1 1) (insB s1 2) (insB s1 3) = ck from hck.symm, ← ho, ← hx, ← hy, ← hz] at hft
          rw [← ho] at uo
          rw [← hy] at uy
          rw [← hz] at uz
          have hckw : ck = 0 ∨ ck = 28 ∨ ck = 32 := by rw [hck]; exact checkI_ways _ _ _ _
          have HFT := Lib.hid hft
          have HOO := Lib.hid ho
          have HXX := Lib.hid hx
          have HYY := Lib.hid hy
          have HZZ := Lib.hid hz
          have HCK := Lib.hid hck
          have HIN := Lib.hid hin
          clear hft ho hx hy hz hck hbnd hin
          by_cases hck0 : ck = 0
          · have q3 : (ck != 0) = false := by rw [bne_eq_false_iff_eq]; exact hck0
            have HCK0 := Lib.hid hck0
            clear hck0 hckw
            by_cases h39 : o = 39
            · have q4 : ((o : Int) == 39) = true := by rw [beq_iff_eq]; omega
              have H39 := Lib.hid h39
              clear h39
              go_wp2_with fail
              refine HFT.out.mono ?_
              rintro e w3 ⟨rfl, hb3⟩
              have HMW3 := Lib.hid (HMW.out.keep hb3)
              have H63 := Lib.hid (bkeep hb3 H6.out)
              have HCH3 := Lib.hid (HCH.out.trans (Chg.of_below (mwS g gm gx) hb3) (fun _ _ h => h))
              clear hb3
              go_upto_region 8 with fail
              have hbI := bnew w3 (.cells #[.int .u8 o, .int .u8 x, .int .u8 y, .int .u8 z] 24)
              have hlI := heap_alloc_last w3 (.cells #[.int .u8 o, .int .u8 x, .int .u8 y, .int .u8 z] 24)
              have HMW4 := Lib.hid (HMW3.out.keep hbI)
              have H64 := Lib.hid (bkeep hbI H63.out)
              have HCH4 := Lib.hid (HCH3.out.trans (Chg.of_below (mwS g gm gx) hbI) (fun _ _ h => h))
              have HLI := Lib.hid hlI
              obtain ⟨NI, hNI⟩ : ∃ N, N = w3.heap.size := ⟨_, rfl⟩
              rw [← hNI] at HLI ⊢
              generalize w3.alloc (.cells #[.int .u8 o, .int .u8 x, .int .u8 y, .int .u8 z] 24) = w4 at *
              clear hbI hlI hNI
              have hcI := rowcell HLI.out
              have c16 : w4.cell? ⟨gx, 16, none⟩ = some (.int .u32 s1.at_) := HMW4.out.rw.cell (i := 16) (by omega)
              have cf := HMW4.out.rw.frozen
              obtain ⟨va, hva⟩ : ∃ k, k = s1.at_ := ⟨_, rfl⟩
              obtain ⟨nx, hnx⟩ : ∃ k, k = nextI s1 := ⟨_, rfl⟩
              have ra := HMW4.out.wf.a0
              have rn := nextI_le s1
              rw [← hva] at c16 ra
              rw [← hnx] at rn
              have fn : IntKind.u32.wrap (va + 4) = nx := by rw [IntKind.wrap_u32, hnx, hva]; rfl
              have fn2 : (va + 4) % 4294967296 = nx := by rw [hnx, hva]; rfl
              have hIx : gx ≠ NI := fun e => by
                have h1 := rowIs_arr HMW4.out.rw
                rw [e, HLI.out] at h1
                injection h1 with h1
                injection h1 with _ h1 _
                exact absurd h1 (by decide)
              have HNX := Lib.hid hnx
              clear hva hnx
              go_upto_region 12 with fail
              have o5 := one_setCell w4 gx 16 (.int .u32 nx)
              have hr5 := row_at HMW4.out.rw nx
              have hm5 := HMW4.out.regs (chgOne (Chg.of_below _ (Below.refl _ _)) o5 (fun x e => .inl (by cases e; rfl))) hr5 rfl (HMW4.out.wf.setAt nx rn.1 rn.2)
              have h65 := o5.blk H64.out (fun e => by cases e; exact HN6.out.1 rfl)
              have hI5 := o5.blk HLI.out (fun e => by cases e; exact hIx rfl)
              have hc5 := chgOne HCH4.out o5 (fun x e => .inl (.inl (by cases e; rfl)))
              clear hcI c16 cf hr5 o5
              generalize w4.setCell ⟨gx, 16, none⟩ (.int .u32 nx) = w5 at *
              have HMW5 := Lib.hid hm5
              have H65 := Lib.hid h65
              have HCH5 := Lib.hid hc5
              have hcI := rowcell hI5
              clear hm5 h65 hI5 hc5
              go_upto_region 12 with fail
              go_wp2_with (with_reducible refine wpList_stop none rfl ?_)
              refine Lib.hid ?_
              refine wpList_store_pieceTo rfl 43 _ _ rfl rfl N6 0 #[.int .u8 1, .int .i64 y, .int .i64 ((j : Int) + 1)] (by go_simp) (by go_simp) (by kernel_rfl) (fun j hj => by rw [Nat.zero_add, rowcell H65.out, Array.getElem?_eq_getElem (by simpa using hj)]; rfl) (fun j _ => rowfree H65.out _) (fun v hv => by simp at hv; rcases hv with rfl | rfl | rfl <;> rfl) (fun w9 hw9 => ?_)
              obtain ⟨e9, o9⟩ := setCells_whole (cs := #[.int .u8 1, .int .i64 y, .int .i64 ((j : Int) + 1)]) H65.out rfl
              rw [← hw9] at e9 o9
              clear hw9
              have hrun := endLoad w9 N6 #[.int .u8 1, .int .i64 y, .int .i64 ((j : Int) + 1)] e9 rfl
              have HMW9 := Lib.hid (HMW5.out.endB o9 HN6.out)
              have HCH9 := Lib.hid (chgOne HCH5.out o9 (fun x e => .inr (by cases e; exact Nat.le_of_eq HNS.out)))
              have HR9 := Lib.hid (show runM (stI m) b 0 s = (setAt s1 nx, 1, y, j + 1) from by rw [HRUN.out, HJ.out, run_ask (stI_ask HIN.out (by rw [← HCK.out]; exact HCK0.out) (by rw [← HOO.out]; exact H39.out)), ← HNX.out, ← HYY.out])
              go_wp2_with fail
              refine bodyPost_ret (v := .agg #[.int .u8 1, .int .i64 y, .int .i64 ((j : Int) + 1)]) (by simp [results, Try.results12, Act.put, asAddr, hrun]) rfl ?_
              unfold RunP
              rw [HR9.out]
              exact ⟨rfl, ⟨_, HMW9.out⟩, HCH9.out⟩
            · have q4 : ((o : Int) == 39) = false := by rw [beq_eq_false_iff_ne]; omega
              have q5 : (o == 39) = false := by rw [beq_eq_false_iff_ne]; exact h39
              have H39 := Lib.hid h39
              clear h39
              go_wp2_with fail
              refine HFT.out.mono ?_
              rintro e w3 ⟨rfl, hb3⟩
              have HMW3 := Lib.hid (HMW.out.keep hb3)
              have H63 := Lib.hid (bkeep hb3 H6.out)
              have HCH3 := Lib.hid (HCH.out.trans (Chg.of_below (mwS g gm gx) hb3) (fun _ _ h => h))
              clear hb3
              go_upto_region 8 with fail
              have hbI := bnew w3 (.cells #[.int .u8 o, .int .u8 x, .int .u8 y, .int .u8 z] 24)
              have hlI := heap_alloc_last w3 (.cells #[.int .u8 o, .int .u8 x, .int .u8 y, .int .u8 z] 24)
              have HMW4 := Lib.hid (HMW3.out.keep hbI)
              have H64 := Lib.hid (bkeep hbI H63.out)
              have HCH4 := Lib.hid (HCH3.out.trans (Chg.of_below (mwS g gm gx) hbI) (fun _ _ h => h))
              have HLI := Lib.hid hlI
              obtain ⟨NI, hNI⟩ : ∃ N, N = w3.heap.size := ⟨_, rfl⟩
              rw [← hNI] at HLI ⊢
              generalize w3.alloc (.cells #[.int .u8 o, .int .u8 x, .int .u8 y, .int .u8 z] 24) = w4 at *
              clear hbI hlI hNI
              have hcI := rowcell HLI.out
              obtain ⟨se, hse⟩ : ∃ k, k = (stepI m s1 o x y z).2 := ⟨_, rfl⟩
              have hst := step_all HMW4.out o x y z (by rw [HOO.out, HXX.out, HYY.out, HZZ.out]; show ckI s1 = 0; rw [← HCK.out]; exact HCK0.out) H39.out uy uz
              unfold StepP at hst
              have hser := stepI_err m s1 o x y z
              rw [← hse] at hst hser
              have HSE := Lib.hid hse
              have HST := Lib.hid hst
              have HSER := Lib.hid hser
              clear hse hst hser
              go_wp2_with fail
              refine HST.out.mono ?_
              rintro e w5 ⟨rfl, ⟨F5, hm5⟩, hc5⟩
              have h65 := hc5.blk H64.out (fun e => by
                rcases e with e | e | e
                · exact HN6.out.1 e
                · exact HN6.out.2.1 e
                · exact HN6.out.2.2.1 e)
              have HM5 := Lib.hid hm5
              have H65 := Lib.hid h65
              have HCH5 := Lib.hid (HCH4.out.trans hc5 (fun _ _ h => h))
              clear hm5 hc5 h65 hcI
              by_cases hz0 : se = 0
              · have q6 : (se != 0) = false := by rw [bne_eq_false_iff_eq]; exact hz0
                have HZ0 := Lib.hid hz0
                have HGO := Lib.hid (stI_go HIN.out (by rw [← HCK.out]; exact HCK0.out) (by rw [← HOO.out]; exact H39.out) (by rw [← HOO.out, ← HXX.out, ← HYY.out, ← HZZ.out, ← HSE.out]; exact HZ0.out))
                clear hz0
                go_wp2_with fail
                go_roundw
                case rel => exact ⟨j + 1, (stepI m s1 o x y z).1, F5, by omega, by go_num, HM5.out, H65.out, HCH5.out, by rw [HRUN.out, HJ.out, run_go HGO.out, ← HOO.out, ← HXX.out, ← HYY.out, ← HZZ.out, show b - j - 1 = b - (j + 1) by omega]⟩
                case measure => simp [intOf]; omega
              · have q6 : (se != 0) = true := by rw [bne_iff_ne]; exact hz0
                have HER := Lib.hid (show 0 < se ∧ se ≤ 31 ∧ (stepI m s1 o x y z).1 = s1 from HSER.out.resolve_left hz0)
                obtain ⟨sn, hsn⟩ : ∃ sn : Nat, (sn : Int) = se := ⟨se.toNat, by have := HER.out; omega⟩
                have HSN := Lib.hid hsn
                have HZ0 := Lib.hid hz0
                have HM6 := Lib.hid (show MW w5 g gm gs base m gx a us v F5 s1 from by have h7 := HM5.out; rw [HER.out.2.2] at h7; exact h7)
                clear hz0 hsn
                go_upto_region 15 with fail
                go_wp2_with (with_reducible refine wpList_stop none rfl ?_)
                refine Lib.hid ?_
                refine wpList_store_pieceTo rfl 43 _ _ rfl rfl N6 0 #[.int .u8 2, .int .i64 se, .int .i64 j] (by go_simp) (by go_simp) (by kernel_rfl) (fun j hj => by rw [Nat.zero_add, rowcell H65.out, Array.getElem?_eq_getElem (by simpa using hj)]; rfl) (fun j _ => rowfree H65.out _) (fun v hv => by simp at hv; rcases hv with rfl | rfl | rfl <;> rfl) (fun w9 hw9 => ?_)
                obtain ⟨e9, o9⟩ := setCells_whole (cs := #[.int .u8 2, .int .i64 se, .int .i64 j]) H65.out rfl
                rw [← hw9] at e9 o9
                clear hw9
                have hrun := endLoad w9 N6 #[.int .u8 2, .int .i64 se, .int .i64 j] e9 rfl
                have HMW9 := Lib.hid (HM6.out.endB o9 HN6.out)
                have HCH9 := Lib.hid (chgOne HCH5.out o9 (fun x e => .inr (by cases e; exact Nat.le_of_eq HNS.out)))
                have HR9 := Lib.hid (show runM (stI m) b 0 s = (s1, 2, sn, j) from by rw [HRUN.out, HJ.out, run_flt (stI_er HIN.out (by rw [← HCK.out]; exact HCK0.out) (by rw [← HOO.out]; exact H39.out) (by rw [← HOO.out, ← HXX.out, ← HYY.out, ← HZZ.out, ← HSE.out]; exact HZ0.out)), ← HOO.out, ← HXX.out, ← HYY.out, ← HZZ.out, show (stepI m s1 o x y z).2.toNat = sn by rw [← HSE.out, ← HSN.out]; rfl])
                go_wp2_with fail
                refine bodyPost_ret (v := .agg #[.int .u8 2, .int .i64 se, .int .i64 j]) (by simp [results, Try.results12, Act.put, asAddr, hrun]) rfl ?_
                unfold RunP
                rw [HR9.out]
                exact ⟨by rw [← HSN.out]; rfl, ⟨_, HMW9.out⟩, HCH9.out⟩
          · have q3 : (ck != 0) = true := by rw [bne_iff_ne]; exact hck0
            have HCK0 := Lib.hid hck0
            have hck1 : 0 ≤ ck := by omega
            obtain ⟨cn, hcn⟩ : ∃ cn : Nat, (cn : Int) = ck := ⟨ck.toNat, by omega⟩
            have HCN := Lib.hid hcn
            clear hck0 hckw
            go_wp2_with fail
            refine HFT.out.mono ?_
            rintro e w3 ⟨rfl, hb3⟩
            have HMW3 := Lib.hid (HMW.out.keep hb3)
            have H63 := Lib.hid (bkeep hb3 H6.out)
            have HCH3 := Lib.hid (HCH.out.trans (Chg.of_below (mwS g gm gx) hb3) (fun _ _ h => h))
            clear hb3
            go_upto_region 8 with fail
            have hbI := bnew w3 (.cells #[.int .u8 o, .int .u8 x, .int .u8 y, .int .u8 z] 24)
            have hlI := heap_alloc_last w3 (.cells #[.int .u8 o, .int .u8 x, .int .u8 y, .int .u8 z] 24)
            have HMW4 := Lib.hid (HMW3.out.keep hbI)
            have H64 := Lib.hid (bkeep hbI H63.out)
            have HCH4 := Lib.hid (HCH3.out.trans (Chg.of_below (mwS g gm gx) hbI) (fun _ _ h => h))
            have HLI := Lib.hid hlI
            obtain ⟨NI, hNI⟩ : ∃ N, N = w3.heap.size := ⟨_, rfl⟩
            rw [← hNI] at HLI ⊢
            generalize w3.alloc (.cells #[.int .u8 o, .int .u8 x, .int .u8 y, .int .u8 z] 24) = w4 at *
            clear hbI hlI hNI
            go_upto_region 9 with fail
            go_wp2_with (with_reducible refine wpList_stop none rfl ?_)
            refine Lib.hid ?_
            refine wpList_store_pieceTo rfl 43 _ _ rfl rfl N6 0 #[.int .u8 2, .int .i64 ck, .int .i64 j] (by go_simp) (by go_simp) (by kernel_rfl) (fun j hj => by rw [Nat.zero_add, rowcell H64.out, Array.getElem?_eq_getElem (by simpa using hj)]; rfl) (fun j _ => rowfree H64.out _) (fun v hv => by simp at hv; rcases hv with rfl | rfl | rfl <;> rfl) (fun w9 hw9 => ?_)
            obtain ⟨e9, o9⟩ := setCells_whole (cs := #[.int .u8 2, .int .i64 ck, .int .i64 j]) H64.out rfl
            rw [← hw9] at e9 o9
            clear hw9
            have hrun := endLoad w9 N6 #[.int .u8 2, .int .i64 ck, .int .i64 j] e9 rfl
            have HMW9 := Lib.hid (HMW4.out.endB o9 HN6.out)
            have HCH9 := Lib.hid (chgOne HCH4.out o9 (fun x e => .inr (by cases e; exact Nat.le_of_eq HNS.out)))
            have HR9 := Lib.hid (show runM (stI m) b 0 s = (s1, 2, cn, j) from by rw [HRUN.out, HJ.out, run_flt (stI_ck HIN.out (by rw [← HCK.out]; exact HCK0.out)), show (ckI s1).toNat = cn by rw [← HCK.out, ← HCN.out]; rfl])
            go_wp2_with fail
            refine bodyPost_ret (v := .agg #[.int .u8 2, .int .i64 ck, .int .i64 j]) (by simp [results, Try.results12, Act.put, asAddr, hrun]) rfl ?_
            unfold RunP
            rw [HR9.out]
            exact ⟨by rw [← HCN.out]; rfl, ⟨_, HMW9.out⟩, HCH9.out⟩
        · have HIN := Lib.hid hin
          have HFT := Lib.hid (fetch_no HMW.out hin)
          clear hin
          go_wp2_with fail
          refine HFT.out.mono ?_
          rintro e w3 ⟨rfl, hb3⟩
          have HMW3 := Lib.hid (HMW.out.keep hb3)
          have H63 := Lib.hid (bkeep hb3 H6.out)
          have HCH3 := Lib.hid (HCH.out.trans (Chg.of_below (mwS g gm gx) hb3) (fun _ _ h => h))
          clear hb3
          go_upto_region 8 with fail
          have hbI := bnew w3 (.cells #[.int .u8 0, .int .u8 0, .int .u8 0, .int .u8 0] 24)
          have hlI := heap_alloc_last w3 (.cells #[.int .u8 0, .int .u8 0, .int .u8 0, .int .u8 0] 24)
          have HMW4 := Lib.hid (HMW3.out.keep hbI)
          have H64 := Lib.hid (bkeep hbI H63.out)
          have HCH4 := Lib.hid (HCH3.out.trans (Chg.of_below (mwS g gm gx) hbI) (fun _ _ h => h))
          have HLI := Lib.hid hlI
          obtain ⟨NI, hNI⟩ : ∃ N, N = w3.heap.size := ⟨_, rfl⟩
          rw [← hNI] at HLI ⊢
          generalize w3.alloc (.cells #[.int .u8 0, .int .u8 0, .int .u8 0, .int .u8 0] 24) = w4 at *
          clear hbI hlI hNI
          go_upto_region 9 with fail
          go_wp2_with (with_reducible refine wpList_stop none rfl ?_)
          refine Lib.hid ?_
          refine wpList_store_pieceTo rfl 43 _ _ rfl rfl N6 0 #[.int .u8 2, .int .i64 20, .int .i64 j] (by go_simp) (by go_simp) (by kernel_rfl) (fun j hj => by rw [Nat.zero_add, rowcell H64.out, Array.getElem?_eq_getElem (by simpa using hj)]; rfl) (fun j _ => rowfree H64.out _) (fun v hv => by simp at hv; rcases hv with rfl | rfl | rfl <;> rfl) (fun w9 hw9 => ?_)
          obtain ⟨e9, o9⟩ := setCells_whole (cs := #[.int .u8 2, .int .i64 20, .int .i64 j]) H64.out rfl
          rw [← hw9] at e9 o9
          clear hw9
          have hrun := endLoad w9 N6 #[.int .u8 2, .int .i64 20, .int .i64 j] e9 rfl
          have HMW9 := Lib.hid (HMW4.out.endB o9 HN6.out)
          have HCH9 := Lib.hid (chgOne HCH4.out o9 (fun x e => .inr (by cases e; exact Nat.le_of_eq HNS.out)))
          have HR9 := Lib.hid (show runM (stI m) b 0 s = (s1, 2, 20, j) from by rw [HRUN.out, HJ.out, run_flt (stI_no HIN.out)])
          go_wp2_with fail
          refine bodyPost_ret (v := .agg #[.int .u8 2, .int .i64 20, .int .i64 j]) (by simp [results, Try.results12, Act.put, asAddr, hrun]) rfl ?_
          unfold RunP
          rw [HR9.out]
          exact ⟨rfl, ⟨_, HMW9.out⟩, HCH9.out⟩
      · obtain rfl : j = b := by omega
        have HR0 := Lib.hid (show runM (stI m) j 0 s = (s1, 0, 0, j) from by rw [HRUN.out, Nat.sub_self]; rfl)
        go_upto_region 17 with fail
        go_wp2_with (with_reducible refine wpList_stop none rfl ?_)
        refine Lib.hid ?_
        refine wpList_store_pieceTo rfl 43 _ _ rfl rfl N6 0 #[.int .u8 0, .int .i64 0, .int .i64 j] (by go_simp) (by go_simp) (by kernel_rfl) (fun j hj => by rw [Nat.zero_add, rowcell H6.out, Array.getElem?_eq_getElem (by simpa using hj)]; rfl) (fun j _ => rowfree H6.out _) (fun v hv => by simp at hv; rcases hv with rfl | rfl | rfl <;> rfl) (fun w9 hw9 => ?_)
        obtain ⟨e9, o9⟩ := setCells_whole (cs := #[.int .u8 0, .int .i64 0, .int .i64 j]) H6.out rfl
        rw [← hw9] at e9 o9
        clear hw9
        have hrun := endLoad w9 N6 #[.int .u8 0, .int .i64 0, .int .i64 j] e9 rfl
        have HMW9 := Lib.hid (HMW.out.endB o9 HN6.out)
        have HCH9 := Lib.hid (chgOne HCH.out o9 (fun x e => .inr (by cases e; exact Nat.le_of_eq HNS.out)))
        have HR9 := Lib.hid (show runM (stI m) j 0 s = (s1, 0, 0, j) from HR0.out)
        go_wp2_with fail
        refine bodyPost_ret (v := .agg #[.int .u8 0, .int .i64 0, .int .i64 j]) (by simp [results, Try.results12, Act.put, asAddr, hrun]) rfl ?_
        unfold RunP
        rw [HR9.out]
        exact ⟨rfl, ⟨_, HMW9.out⟩, HCH9.out⟩
theorem run_in (h : MW w g gm gs base m gx a us v F s) (b : Nat) (hb : b ≤ 65536) :
    Calls Try.prog 12 #[.pointer (some ⟨gx, 0, none⟩), .pointer (some ⟨gs, 0, none⟩), .int .i64 b] w (RunP g gm gs base m gx a us v s b w) := run_any h b b hb (.inr (.inl ⟨by omega, by omega, rfl⟩))
end
end Go.Proofs.Ytapcbfeifeobhaa

set_option linter.unusedVariables false
set_option linter.unusedSimpArgs false
namespace Go.Proofs.Ytapcbfeifeobhaa
open Go.RowKit
open Go.Maps (Keyed)
/-- A memory of m pages: its bytes. -/
structure MemW (w : World) (g gm gs base m : Nat) (a : Option Addr) (us : Nat → Nat) (v : Value) (F : Nat × Nat → Option (Nat → Nat)) (mem : Nat → Nat) : Prop where
  tp : FP w g gm a us F
  sp : SpV w base gs g 0 (morePs 0 0 m) v
  ok : SpOk F (morePs 0 0 m)
  mm : ∀ i, i < 64 * m → mem i = spMem F (morePs 0 0 m) i
  m0 : ∀ i, i < 64 * m → mem i < 256
def memZ (zs : List Int) (i : Nat) : Nat := (zs.getD i 0).toNat
theorem memZ_lt {zs : List Int} (h : ∀ z ∈ zs, 0 ≤ z ∧ z ≤ 255) (i : Nat) : memZ zs i < 256 := by
  unfold memZ
  by_cases hi : i < zs.length
  · rw [List.getD_eq_getElem?_getD, List.getElem?_eq_getElem hi]
    have := h _ (List.getElem_mem hi)
    show (zs[i]).toNat < 256
    omega
  · rw [List.getD_eq_getElem?_getD, List.getElem?_eq_none (by omega)]
    decide
theorem moreMem (F : Nat × Nat → Option (Nat → Nat)) (l u : Nat) : ∀ (m j : Nat), j < m → moreF F l u m (l, u + j) = some fun _ => 0
  | 0, j, h => by omega
  | m + 1, j, h => by
    show putF (moreF F l u m) (l, u + m) (fun _ => 0) (l, u + j) = _
    unfold putF
    by_cases e : j = m
    · subst e; rw [if_pos rfl]
    · rw [if_neg (by intro c; injection c with _ c; omega)]
      exact moreMem F l u m j (by omega)
theorem zeroMem (m i : Nat) (hi : i < 64 * m) : spMem (moreF (fun _ => none) 0 0 m) (morePs 0 0 m) i = 0 := by
  unfold spMem
  have h1 : (morePs 0 0 m).getD (i / 64) (0, 0) = (0, 0 + i / 64) := by
    unfold morePs
    rw [List.getD_eq_getElem?_getD, List.getElem?_map, List.getElem?_range (by omega)]
    rfl
  rw [h1, moreMem _ 0 0 m (i / 64) (by omega)]
  rfl
theorem MemW.keep {w w' : World} {g gm gs base m : Nat} {a : Option Addr} {us : Nat → Nat} {v : Value} {F : Nat × Nat → Option (Nat → Nat)} {mem : Nat → Nat} (h : MemW w g gm gs base m a us v F mem) (hb : Below w.heap.size w w') : MemW w' g gm gs base m a us v F mem :=
  ⟨h.tp.keep hb, h.sp.keep hb, h.ok, h.mm, h.m0⟩
set_option maxRecDepth 100000 in
set_option maxHeartbeats 8000000 in
theorem memory_in (w : World) (A : Option Addr) (cap : Nat) (zs : List Int) (hz : SI w .u8 (.slice A zs.length cap) zs) (hzb : ∀ z ∈ zs, 0 ≤ z ∧ z ≤ 255) (p : Nat) (hp : p ≤ 32) (hl : zs.length ≤ 64 * p) :
    Calls Try.prog 11 #[.slice A zs.length cap, .int .i64 p] w fun e w' => ∃ g gm gs base a us v F, e = .returned (.pointer (some ⟨gs, 0, none⟩)) ∧ w.heap.size ≤ g ∧ w.heap.size ≤ gm ∧ w.heap.size ≤ base ∧ MemW w' g gm gs base p a us v F (memZ zs) ∧ Below w.heap.size w w' := by
  have HZ := Lib.hid hz
  have HZB := Lib.hid hzb
  obtain ⟨len, hlen⟩ : ∃ l, l = zs.length := ⟨_, rfl⟩
  rw [← hlen] at hl ⊢
  have HL := Lib.hid hlen
  clear hz hzb hlen
  go_enter Try.func11, Try.ntmps11
  go_wp2_with fail
  refine (pool_in w).mono ?_
  rintro e w2 ⟨g, gm, ad, w1, rfl, hnp⟩
  have HNP := Lib.hid hnp
  clear hnp
  go_wp2_with fail
  have hnew := spaceNew_up HNP.out.cp HNP.out.b2 HNP.out.fp Cont.nil HNP.out.g0 HNP.out.g1 (lab := 0) (by rw [bigS_len]; omega) (sizeLe64 _) p hp (by rw [bigS_fr0]; omega) (by rw [bigS_fr0]; omega)
  refine hnew.mono ?_
  rintro e w3 ⟨gs, v3, rfl, hgs, hT3, hS3, hc3⟩
  have HNS := Lib.hid (NewSp.mk' HNP.out hp (by omega) hT3 hS3 hc3)
  have HGS := Lib.hid hgs
  clear hnew hT3 hS3 hc3 hgs
  go_wp2_with fail
  have hwr := spaceWrite_in HNS.out.bl HNS.out.tp HNS.out.sp HNS.out.ok HNS.out.g0 HNS.out.g1 (.slice A len cap) zs (by have := HZ.out.keep HNP.out.b1; rw [← HL.out] at this; exact this) 0 (by omega) (by rw [morePs_len, ← HL.out]; omega)
  refine hwr.mono ?_
  rintro e w4 ⟨rfl, F4, hT4, hU4, hC4⟩
  have HN4 := Lib.hid (HNS.out.upd hT4 hU4 hC4)
  have HU4 := Lib.hid hU4
  clear hwr hT4 hU4 hC4
  go_wp2_with fail
  go_ret
  refine ⟨g, gm, gs, _, _, _, v3, F4, rfl, Nat.le_trans HNP.out.b1.size HNP.out.g0, Nat.le_trans HNP.out.b1.size HNP.out.g1, Nat.le_trans HNP.out.b1.size HNP.out.b2.size, ⟨HN4.out.tp, HN4.out.sp, HN4.out.ok, fun i hi => ?_, fun i hi => memZ_lt HZB.out i⟩, HNP.out.b1.trans (HN4.out.bl.mono HNP.out.b1.size)⟩
  rw [HU4.out.mem i (by rw [morePs_len]; exact hi)]
  by_cases c : i < zs.length
  · rw [if_pos ⟨Nat.zero_le _, by omega⟩, Nat.sub_zero]
    rfl
  · rw [if_neg (by omega), zeroMem p i hi]
    unfold memZ
    rw [List.getD_eq_getElem?_getD, List.getElem?_eq_none (by omega)]
    rfl
end Go.Proofs.Ytapcbfeifeobhaa

set_option linter.unusedVariables false
set_option linter.unusedSimpArgs false
namespace Go.Proofs.Ytapcbfeifeobhaa
open Go.RowKit
open Go.Maps (Keyed)
theorem MemW.mw {w : World} {g gm gs base m gx : Nat} {a : Option Addr} {us : Nat → Nat} {v : Value} {F : Nat × Nat → Option (Nat → Nat)} {s : Mach} (h : MemW w g gm gs base m a us v F s.mem) (hr : w.rowIs gx 36 17 (stV s)) (r0 : ∀ i, i < 16 → 0 ≤ s.R i ∧ s.R i ≤ 4294967295) (a0 : 0 ≤ s.at_ ∧ s.at_ ≤ 4294967295) : MW w g gm gs base m gx a us v F s :=
  ⟨h.tp, h.sp, h.ok, h.mm, hr, ⟨r0, a0, h.m0⟩⟩
def exZ : List Int := [2, 1, 7, 0, 39, 0, 1, 0]
def exS : Mach := ⟨fun _ => 0, 0, memZ exZ⟩
theorem ex_run : (runM (stI 1) 9 0 exS).2 = (1, 1, 2) ∧ (runM (stI 1) 9 0 exS).1.R 1 = 7 ∧ (runM (stI 1) 9 0 exS).1.at_ = 8 := by
  have h1 : stI 1 exS = ((stepI 1 exS 2 1 7 0).1, .go) := stI_go (by decide) (by decide) (by decide) (by decide)
  have h2 : stI 1 (stepI 1 exS 2 1 7 0).1 = (setAt (stepI 1 exS 2 1 7 0).1 (nextI (stepI 1 exS 2 1 7 0).1), .ask 1) := stI_ask (by decide) (by decide) (by decide)
  rw [show (9 : Nat) = 8 + 1 from rfl, run_go h1, show (8 : Nat) = 7 + 1 from rfl, run_ask h2]
  exact ⟨rfl, by decide, by decide⟩
theorem eqEnd0 (w : World) : (Op.equalIn 10000 43 (.agg #[.int .u8 1, .int .i64 1, .int .i64 2]) (.agg #[.int .u8 1, .int .i64 1, .int .i64 2])).run Try.prog w = .ok true w := by kernel_rfl
set_option maxRecDepth 100000 in
set_option maxHeartbeats 8000000 in
theorem cpuAwake_in (W : World) : Calls Try.prog 8 #[] W fun e w' => e = .returned (.bool true) ∧ Below W.heap.size W w' := by
  have hb1 := bnew W (.cells #[.int .u32 0, .int .u32 0, .int .u32 0, .int .u32 0, .int .u32 0, .int .u32 0, .int .u32 0, .int .u32 0, .int .u32 0, .int .u32 0, .int .u32 0, .int .u32 0, .int .u32 0, .int .u32 0, .int .u32 0, .int .u32 0, .int .u32 0] 36)
  have hr1 := World.rowIs_alloc W #[.int .u32 0, .int .u32 0, .int .u32 0, .int .u32 0, .int .u32 0, .int .u32 0, .int .u32 0, .int .u32 0, .int .u32 0, .int .u32 0, .int .u32 0, .int .u32 0, .int .u32 0, .int .u32 0, .int .u32 0, .int .u32 0, .int .u32 0] 36 (stV exS) (fun i hi => by
    have h17 : i < 17 := by simpa using hi
    rcases (show i = 0 ∨ i = 1 ∨ i = 2 ∨ i = 3 ∨ i = 4 ∨ i = 5 ∨ i = 6 ∨ i = 7 ∨ i = 8 ∨ i = 9 ∨ i = 10 ∨ i = 11 ∨ i = 12 ∨ i = 13 ∨ i = 14 ∨ i = 15 ∨ i = 16 by omega) with rfl | rfl | rfl | rfl | rfl | rfl | rfl | rfl | rfl | rfl | rfl | rfl | rfl | rfl | rfl | rfl | rfl <;> rfl)
  have HB1 := Lib.hid hb1
  have HR1 := Lib.hid hr1
  clear hb1 hr1
  go_enter Try.func8, Try.ntmps8
  go_wp2_with fail
  obtain ⟨gx, hgx⟩ : ∃ k, k = W.heap.size := ⟨_, rfl⟩
  rw [← hgx] at HR1 ⊢
  have HGX := Lib.hid hgx
  generalize hw1 : W.alloc (.cells #[.int .u32 0, .int .u32 0, .int .u32 0, .int .u32 0, .int .u32 0, .int .u32 0, .int .u32 0, .int .u32 0, .int .u32 0, .int .u32 0, .int .u32 0, .int .u32 0, .int .u32 0, .int .u32 0, .int .u32 0, .int .u32 0, .int .u32 0] 36) = w1 at *
  have hb2 := bnew w1 (.cells #[.int .u8 2, .int .u8 1, .int .u8 7, .int .u8 0, .int .u8 39, .int .u8 0, .int .u8 1, .int .u8 0] 5)
  have hl2 := heap_alloc_last w1 (.cells #[.int .u8 2, .int .u8 1, .int .u8 7, .int .u8 0, .int .u8 39, .int .u8 0, .int .u8 1, .int .u8 0] 5)
  have hsz : w1.heap.size = gx + 1 := by rw [← hw1, World.size_alloc, HGX.out]
  rw [hsz] at hl2
  have hsi : SI (w1.alloc (.cells #[.int .u8 2, .int .u8 1, .int .u8 7, .int .u8 0, .int .u8 39, .int .u8 0, .int .u8 1, .int .u8 0] 5)) .u8 (.slice (some ⟨gx + 1, 0, none⟩) exZ.length 8) exZ :=
    ⟨⟨rfl, .inr ⟨⟨gx + 1, 0, none⟩, 8, rfl, by decide, by simp [maxLen], fun _ => ⟨rfl, rowlt hl2, fun i hi => by
      show World.cell? _ ⟨gx + 1, 0 + i, none⟩ = _
      rw [Nat.zero_add, rowcell hl2, ← Array.getElem?_toList]
      rfl⟩⟩⟩, by decide⟩
  have hmem := memory_in _ (some ⟨gx + 1, 0, none⟩) 8 exZ hsi (by decide) 1 (by omega) (by decide)
  have HMEM := Lib.hid hmem
  have HR2 := Lib.hid (HR1.out.of_block (hb2.block gx HR1.out.lt))
  have HB2 := Lib.hid (bnext HB1.out hb2)
  clear hw1 hb2 hl2 hsi hmem hgx hsz
  generalize w1.alloc (.cells #[.int .u8 2, .int .u8 1, .int .u8 7, .int .u8 0, .int .u8 39, .int .u8 0, .int .u8 1, .int .u8 0] 5) = w2 at *
  refine HMEM.out.mono ?_
  rintro e w3 ⟨g, gm, gs, base, a, us, v, F, rfl, hg, hgm, hbs, hmw, hb3⟩
  have hM := MemW.mw (s := exS) hmw (HR2.out.of_block (hb3.block gx HR2.out.lt)) (fun i _ => ⟨Int.le_refl 0, (by decide : (0 : Int) ≤ 4294967295)⟩) (by decide)
  have HM := Lib.hid hM
  have HG := Lib.hid (show W.heap.size ≤ g ∧ W.heap.size ≤ gm from by have := HB2.out.size; omega)
  have HB3 := Lib.hid (bnext HB2.out hb3)
  clear hg hgm hbs hmw hb3 hM
  go_wp2_with fail
  have hrn := run_in HM.out 9 (by omega)
  unfold RunP at hrn
  rw [ex_run.1] at hrn
  have HRN := Lib.hid hrn
  clear hrn
  refine HRN.out.mono ?_
  rintro e w4 ⟨rfl, ⟨F', hm4⟩, hc4⟩
  have c1 : w4.cell? ⟨gx, 1, none⟩ = some (.int .u32 7) := by rw [hm4.rw.cell (i := 1) (by omega)]; show some (Value.int .u32 ((runM (stI 1) 9 0 exS).1.R 1)) = _; rw [ex_run.2.1]
  have c16 : w4.cell? ⟨gx, 16, none⟩ = some (.int .u32 8) := by rw [hm4.rw.cell (i := 16) (by omega)]; show some (Value.int .u32 ((runM (stI 1) 9 0 exS).1.at_)) = _; rw [ex_run.2.2]
  have hb4 : Below W.heap.size W w4 := Chg.go HB3.out hc4 (fun k hk => by
    rcases hk with rfl | rfl | rfl
    · exact Nat.le_of_eq HGX.out.symm
    · exact HG.out.1
    · exact HG.out.2) HB3.out.size
  have HB4 := Lib.hid hb4
  have heq := fun w => eqEnd0 w
  have HR4 := Lib.hid hm4.rw
  clear hm4 hc4 hb4
  unfold endA
  go_upto_region 3 with fail
  have hb5 := bnew w4 (.cells #[.int .u8 1, .int .i64 1, .int .i64 2] 43)
  have hl5 := heap_alloc_last w4 (.cells #[.int .u8 1, .int .i64 1, .int .i64 2] 43)
  have d1 : (w4.alloc (.cells #[.int .u8 1, .int .i64 1, .int .i64 2] 43)).cell? ⟨gx, 1, none⟩ = some (.int .u32 7) := by rw [World.cell?_of_block (w := w4) (a := ⟨gx, 1, none⟩) (hb5.block gx HR4.out.lt)]; exact c1
  have d16 : (w4.alloc (.cells #[.int .u8 1, .int .i64 1, .int .i64 2] 43)).cell? ⟨gx, 16, none⟩ = some (.int .u32 8) := by rw [World.cell?_of_block (w := w4) (a := ⟨gx, 16, none⟩) (hb5.block gx HR4.out.lt)]; exact c16
  have HB5 := Lib.hid (bnext HB4.out hb5)
  obtain ⟨NE, hNE⟩ : ∃ k, k = w4.heap.size := ⟨_, rfl⟩
  rw [← hNE] at hl5 ⊢
  have ce := rowcell hl5
  generalize w4.alloc (.cells #[.int .u8 1, .int .i64 1, .int .i64 2] 43) = w5 at *
  clear hb5 hl5 hNE c1 c16
  go_wp2_with fail
  first | go_ret | refine ⟨_, results_tmp rfl _ _ _, ?_⟩
  exact ⟨rfl, HB5.out⟩
end Go.Proofs.Ytapcbfeifeobhaa

set_option linter.unusedVariables false
set_option linter.unusedSimpArgs false
namespace Go.Proofs.Ytapcbfeifeobhaa
open Go.RowKit
open Go.Maps (Keyed)
def loZ : List Int := [30, 0, 255, 255]
def loS : Mach := ⟨fun _ => 0, 0, memZ loZ⟩
theorem lo_step : stI 1 loS = (loS, .go) := by
  have h := stI_go (m := 1) (s := loS) (by decide) (by decide) (by decide) (by decide)
  rw [h]
  rfl
theorem lo_run (b : Nat) : ∀ d, runM (stI 1) b d loS = (loS, 0, 0, d + b) := by
  induction b with
  | zero => exact fun d => rfl
  | succ b ih =>
    intro d
    rw [run_go lo_step, ih, show d + 1 + b = d + (b + 1) by omega]
theorem run_nil1 (w : World) (p : Value) (bud : Int) :
    Calls Try.prog 12 #[.pointer none, p, .int .i64 bud] w fun e w' => e = .returned (.agg #[.int .u8 2, .int .i64 1, .int .i64 0]) ∧ Below w.heap.size w w' := by
  have hb1 := bnew w (.cells #[.int .u8 2, .int .i64 1, .int .i64 0] 43)
  have hl1 := heap_alloc_last w (.cells #[.int .u8 2, .int .i64 1, .int .i64 0] 43)
  have hrun := endLoad _ w.heap.size _ hl1 rfl
  go_enter Try.func12, Try.ntmps12
  go_wp2_with fail
  exact bodyPost_ret (v := .agg #[.int .u8 2, .int .i64 1, .int .i64 0]) (by simp [results, Try.results12, Act.put, asAddr, hrun]) rfl ⟨rfl, hb1⟩
theorem run_nil2 (w : World) (x : Addr) (bud : Int) :
    Calls Try.prog 12 #[.pointer (some x), .pointer none, .int .i64 bud] w fun e w' => e = .returned (.agg #[.int .u8 2, .int .i64 1, .int .i64 0]) ∧ Below w.heap.size w w' := by
  have hb1 := bnew w (.cells #[.int .u8 2, .int .i64 1, .int .i64 0] 43)
  have hl1 := heap_alloc_last w (.cells #[.int .u8 2, .int .i64 1, .int .i64 0] 43)
  have hrun := endLoad _ w.heap.size _ hl1 rfl
  go_enter Try.func12, Try.ntmps12
  go_wp2_with fail
  exact bodyPost_ret (v := .agg #[.int .u8 2, .int .i64 1, .int .i64 0]) (by simp [results, Try.results12, Act.put, asAddr, hrun]) rfl ⟨rfl, hb1⟩
end Go.Proofs.Ytapcbfeifeobhaa

set_option linter.unusedVariables false
set_option linter.unusedSimpArgs false
namespace Go.Proofs.Ytapcbfeifeobhaa
open Go.RowKit
open Go.Maps (Keyed)
section
variable {w w' : World} {base gs g gm lab : Nat} {ps : List (Nat × Nat)} {v : Value}
set_option maxHeartbeats 4000000 in
theorem spacePages_in (hs : SpV w base gs g lab ps v) : Calls Try.prog 35 #[.pointer (some ⟨gs, 0, none⟩)] w fun e w' => e = .returned (.int .i64 ps.length) ∧ w = w' := by
  obtain ⟨A, c, hv⟩ := own_form hs.ov
  have c2 := hs.c2
  rw [hv] at c2
  clear hs hv
  obtain ⟨n, hn⟩ : ∃ n, n = ps.length := ⟨_, rfl⟩
  rw [← hn] at c2 ⊢
  clear hn
  go_enter Try.func35, Try.ntmps35
  go_wp2_with fail
  go_ret
  exact ⟨rfl, rfl⟩
end
set_option maxHeartbeats 4000000 in
theorem opsPages_any (x : Int) (hx : 0 ≤ x) (hx' : x ≤ 255) (a : Option Addr) (n cap : Nat) (hn : n ≤ 1000000000) (w : World) :
    Calls Try.prog 21 #[.agg #[.int .u8 x, .slice a n cap]] w fun e w' => e = .returned (.int .i64 (((n : Int) + 64 - 1) / 64 + x)) ∧ Below w.heap.size w w' := by
  go_enter Try.func21, Try.ntmps21
  go_wp2
  go_ret
  exact ⟨rfl, bnew _ _⟩
set_option maxHeartbeats 4000000 in
theorem boot_nil (w : World) (x : Int) (a : Option Addr) (n cap : Nat) :
    Calls Try.prog 20 #[.pointer none, .agg #[.int .u8 x, .slice a n cap]] w fun e w' => e = .returned (.int .i64 1) ∧ Below w.heap.size w w' := by
  go_enter Try.func20, Try.ntmps20
  go_wp2_with fail
  go_ret
  exact ⟨rfl, bnew _ _⟩
set_option maxRecDepth 20000 in
set_option maxHeartbeats 8000000 in
theorem boot_no {w : World} {g gm gs base m : Nat} {a : Option Addr} {us : Nat → Nat} {v : Value} {F : Nat × Nat → Option (Nat → Nat)} {mem : Nat → Nat} (h : MemW w g gm gs base m a us v F mem) (x : Nat) (hx : x ≤ 255) (A : Option Addr) (n cap : Nat) (hn : n ≤ 1000000) (hne : (n + 63) / 64 + x ≠ m) :
    Calls Try.prog 20 #[.pointer (some ⟨gs, 0, none⟩), .agg #[.int .u8 x, .slice A n cap]] w fun e w' => e = .returned (.int .i64 27) ∧ Below w.heap.size w w' := by
  have hb1 := bnew w (.cells #[.int .u8 x, .slice A n cap] 61)
  have hl1 := heap_alloc_last w (.cells #[.int .u8 x, .slice A n cap] 61)
  have HH := Lib.hid (h.keep hb1)
  have HP := Lib.hid (fun w => opsPages_any (x : Int) (by omega) (by omega) A n cap (by omega) w)
  obtain ⟨pn, hpn⟩ : ∃ k, k = ((n : Int) + 64 - 1) / 64 + x := ⟨_, rfl⟩
  rw [← hpn] at HP
  have hpm : ((m : Int) != pn) = true := by rw [bne_iff_ne]; omega
  have HB1 := Lib.hid hb1
  have HL1 := Lib.hid hl1
  clear hb1 hl1 h hpn hne
  go_enter Try.func20, Try.ntmps20
  go_upto_region 3 with fail
  obtain ⟨N, hN⟩ : ∃ k, k = w.heap.size := ⟨_, rfl⟩
  rw [← hN] at HL1 ⊢
  generalize w.alloc (.cells #[.int .u8 x, .slice A n cap] 61) = w1 at *
  clear hN
  have hS0 : (fun w' : World => w'.heap[N]? = some (.cells #[.int .u8 x, .slice A n cap] 61 (0, 0))) (World.drew w1) := HL1.out
  refine wp_region_held (S := fun w' => w'.heap[N]? = some (.cells #[.int .u8 x, .slice A n cap] 61 (0, 0))) (by kernel_rfl) ?_
  change wpAnyH _ _ _ _ _ _ _ _ (World.drew _)
  refine takeH 0 (.pointer (some ⟨gs, 0, none⟩)) (some 9) rfl rfl (by kernel_rfl) (by kernel_rfl) (by kernel_rfl) (fun _ _ _ h => h) (.inl ⟨by kernel_rfl, fun w _ => by go_simp⟩) hS0 ?_
  refine takeH 2 (.agg #[.int .u8 x, .slice A n cap]) (some 11) rfl rfl (by kernel_rfl) (by kernel_rfl) (by kernel_rfl) (fun _ _ _ h => h) (yi_piece (by rfl) 61 (.tmp 3) rfl N 0 (by go_simp) #[.int .u8 x, .slice A n cap] _ (fun w' hw j v hj => by rw [rowcell hw, Nat.zero_add]; simpa using hj) Try.underlying61 rfl (by kernel_rfl)) hS0 ?_
  go_simp
  have hpg := spacePages_in (HH.out.keep (drewb w1)).sp
  rw [morePs_len] at hpg
  refine callH 1 rfl (by kernel_rfl) (by kernel_rfl) (some 10) rfl 35 #[.pointer (some ⟨gs, 0, none⟩)] ?hrun (hpg.mono ?_)
  case hrun => go_simp
  rintro e w2 ⟨he, rfl⟩
  refine ⟨_, he, hS0, ?_⟩
  go_simp
  refine callH 3 rfl (by kernel_rfl) (by kernel_rfl) (some 12) rfl 21 #[.agg #[.int .u8 x, .slice A n cap]] ?hrun ((HP.out _).mono ?_)
  case hrun => go_simp
  rintro e w3 ⟨he, hb3⟩
  have hS3 := bkeep hb3 hS0
  refine ⟨_, he, hS3, ?_⟩
  go_simp
  refine takeH 4 (.bool true) (some 13) rfl rfl (by kernel_rfl) (by kernel_rfl) (by kernel_rfl) (fun _ _ _ h => h) (.inl ⟨by kernel_rfl, fun w _ => by go_simp⟩) hS3 ?_
  refine takeH 5 (.bool true) (some 8) rfl rfl (by kernel_rfl) (by kernel_rfl) (by kernel_rfl) (fun _ _ _ h => h) (.inl ⟨by kernel_rfl, fun w _ => by go_simp⟩) hS3 ?_
  refine wpAnyH_done (by kernel_rfl) ?_ _
  go_simp
  go_wp2_with fail
  go_ret
  exact ⟨rfl, bnext HB1.out ((drewb w1).trans (hb3.mono (Nat.le_refl _)))⟩
set_option maxRecDepth 20000 in
set_option maxHeartbeats 8000000 in
theorem boot_ok {w : World} {g gm gs base m : Nat} {a : Option Addr} {us : Nat → Nat} {v : Value} {F : Nat × Nat → Option (Nat → Nat)} {mem : Nat → Nat} (h : MemW w g gm gs base m a us v F mem) (x : Nat) (hx : x ≤ 255) (A : Option Addr) (n cap : Nat) (hn : n ≤ 1000000) (hne : (n + 63) / 64 + x = m) (Post : World → Ending → World → Prop) (hwr : ∀ w1, Below w.heap.size w w1 → Calls Try.prog 24 #[.pointer (some ⟨gs, 0, none⟩), .int .u32 0, .slice A n cap] w1 fun e w' => (∃ z, e = .returned (.int .i64 z)) ∧ Post w1 e w') :
    Calls Try.prog 20 #[.pointer (some ⟨gs, 0, none⟩), .agg #[.int .u8 x, .slice A n cap]] w fun e w' => ∃ w1, Below w.heap.size w w1 ∧ Post w1 e w' := by
  have hb1 := bnew w (.cells #[.int .u8 x, .slice A n cap] 61)
  have hl1 := heap_alloc_last w (.cells #[.int .u8 x, .slice A n cap] 61)
  have HH := Lib.hid (h.keep hb1)
  have HP := Lib.hid (fun w => opsPages_any (x : Int) (by omega) (by omega) A n cap (by omega) w)
  obtain ⟨pn, hpn⟩ : ∃ k, k = ((n : Int) + 64 - 1) / 64 + x := ⟨_, rfl⟩
  rw [← hpn] at HP
  have hpm : ((m : Int) != pn) = false := by rw [bne_eq_false_iff_eq]; omega
  have HWR := Lib.hid hwr
  have HB1 := Lib.hid hb1
  have HL1 := Lib.hid hl1
  clear hb1 hl1 h hpn hne hwr
  go_enter Try.func20, Try.ntmps20
  go_upto_region 3 with fail
  obtain ⟨N, hN⟩ : ∃ k, k = w.heap.size := ⟨_, rfl⟩
  rw [← hN] at HL1 ⊢
  generalize w.alloc (.cells #[.int .u8 x, .slice A n cap] 61) = w1 at *
  clear hN
  have hS0 : (fun w' : World => w'.heap[N]? = some (.cells #[.int .u8 x, .slice A n cap] 61 (0, 0))) (World.drew w1) := HL1.out
  refine wp_region_held (S := fun w' => w'.heap[N]? = some (.cells #[.int .u8 x, .slice A n cap] 61 (0, 0))) (by kernel_rfl) ?_
  change wpAnyH _ _ _ _ _ _ _ _ (World.drew _)
  refine takeH 0 (.pointer (some ⟨gs, 0, none⟩)) (some 9) rfl rfl (by kernel_rfl) (by kernel_rfl) (by kernel_rfl) (fun _ _ _ h => h) (.inl ⟨by kernel_rfl, fun w _ => by go_simp⟩) hS0 ?_
  refine takeH 2 (.agg #[.int .u8 x, .slice A n cap]) (some 11) rfl rfl (by kernel_rfl) (by kernel_rfl) (by kernel_rfl) (fun _ _ _ h => h) (yi_piece (by rfl) 61 (.tmp 3) rfl N 0 (by go_simp) #[.int .u8 x, .slice A n cap] _ (fun w' hw j v hj => by rw [rowcell hw, Nat.zero_add]; simpa using hj) Try.underlying61 rfl (by kernel_rfl)) hS0 ?_
  go_simp
  have hpg := spacePages_in (HH.out.keep (drewb w1)).sp
  rw [morePs_len] at hpg
  refine callH 1 rfl (by kernel_rfl) (by kernel_rfl) (some 10) rfl 35 #[.pointer (some ⟨gs, 0, none⟩)] ?hrun (hpg.mono ?_)
  case hrun => go_simp
  rintro e w2 ⟨he, rfl⟩
  refine ⟨_, he, hS0, ?_⟩
  go_simp
  refine callH 3 rfl (by kernel_rfl) (by kernel_rfl) (some 12) rfl 21 #[.agg #[.int .u8 x, .slice A n cap]] ?hrun ((HP.out _).mono ?_)
  case hrun => go_simp
  rintro e w3 ⟨he, hb3⟩
  have hS3 := bkeep hb3 hS0
  refine ⟨_, he, hS3, ?_⟩
  go_simp
  refine takeH 4 (.bool false) (some 13) rfl rfl (by kernel_rfl) (by kernel_rfl) (by kernel_rfl) (fun _ _ _ h => h) (.inl ⟨by kernel_rfl, fun w _ => by go_simp⟩) hS3 ?_
  refine takeH 5 (.bool false) (some 8) rfl rfl (by kernel_rfl) (by kernel_rfl) (by kernel_rfl) (fun _ _ _ h => h) (.inl ⟨by kernel_rfl, fun w _ => by go_simp⟩) hS3 ?_
  refine wpAnyH_done (by kernel_rfl) ?_ _
  go_simp
  have hc3 := rowcell hS3
  have HB3 := Lib.hid (bnext HB1.out ((drewb w1).trans (hb3.mono (Nat.le_refl _))))
  clear hS0 hpg hb3 he hS3
  go_wp2_with fail
  refine (HWR.out _ HB3.out).mono ?_
  rintro e w4 ⟨⟨z, rfl⟩, hp4⟩
  have HP4 := Lib.hid hp4
  clear hp4
  go_wp2_with fail
  go_ret
  exact ⟨_, HB3.out, HP4.out⟩
end Go.Proofs.Ytapcbfeifeobhaa

set_option linter.unusedVariables false
set_option linter.unusedSimpArgs false
namespace Go.Proofs.Ytapcbfeifeobhaa
open Go.RowKit
open Go.Maps (Keyed)
/-- The first bytes of a memory, as numbers. -/
def memL (mem : Nat → Nat) (k : Nat) : List Int := (List.range k).map fun j => (mem j : Int)
theorem memL_len (mem : Nat → Nat) (k : Nat) : (memL mem k).length = k := by simp [memL]
theorem memL_row {w : World} {gO k : Nat} {mem : Nat → Nat} (h : w.rowIs gO 5 k (fun j => .int .u8 (mem j))) (hlt : ∀ j, j < k → mem j < 256) (hm : k ≤ 2048) :
    SI w .u8 (.slice (some ⟨gO, 0, none⟩) k k) (memL mem k) where
  sr := by
    refine ⟨by simp [memL], .inr ⟨⟨gO, 0, none⟩, k, by rw [memL_len], by rw [memL_len]; exact Nat.le_refl _, by simp only [maxLen]; omega, fun _ => ⟨rfl, h.lt, fun i hi => ?_⟩⟩⟩
    rw [memL_len] at hi
    rw [Nat.zero_add, h.cell (i := i) (by omega)]
    simp [memL, List.getElem?_map, List.getElem?_range, show i < k by omega]
  wf := fun z hz => by
    simp only [memL, List.mem_map, List.mem_range] at hz
    obtain ⟨j, hj, rfl⟩ := hz
    have := hlt j hj
    simp [Lit.wf, IntKind.min, IntKind.max, IntKind.bits, IntKind.signed]; omega
theorem memL_congr {m1 m2 : Nat → Nat} {k : Nat} (h : ∀ i, i < k → m1 i = m2 i) : memL m1 k = memL m2 k := by
  unfold memL
  exact List.map_congr_left fun i hi => by rw [h i (List.mem_range.1 hi)]
theorem memL_memZ {zs : List Int} (h : ∀ z ∈ zs, 0 ≤ z ∧ z ≤ 255) : memL (memZ zs) zs.length = zs := by
  apply List.ext_getElem?
  intro i
  by_cases hi : i < zs.length
  · have h1 := h _ (List.getElem_mem hi)
    simp [memL, memZ, List.getElem?_map, List.getElem?_range, hi, List.getD_eq_getElem?_getD]
    omega
  · rw [List.getElem?_eq_none (by rw [memL_len]; omega), List.getElem?_eq_none (by omega)]
theorem wf_bytes {zs : List Int} (h : ∀ z ∈ zs, (Lit.int .u8 z).wf = true) : ∀ z ∈ zs, 0 ≤ z ∧ z ≤ 255 := fun z hz => by
  have := wf_u8 (h z hz)
  omega
section
variable {w w' : World} {g gm gs base m gx : Nat} {a : Option Addr} {us : Nat → Nat} {v : Value} {F : Nat × Nat → Option (Nat → Nat)} {mem : Nat → Nat} {s : Mach}
/-- The first bytes of a memory are read. -/
theorem MemW.read (h : MemW w g gm gs base m a us v F mem) (k : Nat) (hk : k ≤ 64 * m) :
    Calls Try.prog 16 #[.pointer (some ⟨gs, 0, none⟩), .int .u32 0, .int .i64 k] w fun e w' => ∃ gO, e = .returned (.tuple #[.slice (some ⟨gO, 0, none⟩) k k, .int .i64 0]) ∧ SI w' .u8 (.slice (some ⟨gO, 0, none⟩) k k) (memL mem k) ∧ Below w.heap.size w w' := by
  have hl := h.ok.len
  rw [morePs_len] at hl
  have hr := spaceRead_in h.tp h.sp h.ok 0 k (by omega) (by rw [morePs_len]; omega)
  refine hr.mono ?_
  rintro e w' ⟨gO, rfl, _, hrow, hb⟩
  refine ⟨gO, rfl, ?_, hb⟩
  have e1 : memL mem k = memL (fun j => spMem F (morePs 0 0 m) (0 + j)) k := memL_congr fun i hi => by
    show mem i = spMem F (morePs 0 0 m) (0 + i)
    rw [Nat.zero_add, h.mm i (by omega)]
  rw [e1]
  refine memL_row hrow (fun j hj => ?_) (by omega)
  show spMem F (morePs 0 0 m) (0 + j) < 256
  rw [Nat.zero_add, ← h.mm j (by omega)]
  exact h.m0 j (by omega)
theorem MW.memW (h : MW w g gm gs base m gx a us v F s) : MemW w g gm gs base m a us v F s.mem := ⟨h.tp, h.sp, h.ok, h.mm, h.wf.m0⟩
end
set_option maxHeartbeats 4000000 in
theorem boot_in {w0 w : World} {g gm gs base m : Nat} {a : Option Addr} {us : Nat → Nat} {v : Value} {F : Nat × Nat → Option (Nat → Nat)} {mem : Nat → Nat} (hbl : Below w0.heap.size w0 w) (h : MemW w g gm gs base m a us v F mem) (g0 : w0.heap.size ≤ g) (g1 : w0.heap.size ≤ gm) (x : Nat) (hx : x ≤ 255) (A : Option Addr) (cap : Nat) (zs : List Int) (hz : SI w0 .u8 (.slice A zs.length cap) zs) (hn : zs.length ≤ 1000000) :
    Calls Try.prog 20 #[.pointer (some ⟨gs, 0, none⟩), .agg #[.int .u8 x, .slice A zs.length cap]] w fun e w' => e = .returned (.int .i64 (if (zs.length + 63) / 64 + x = m then 0 else 27)) ∧ ∃ F' mem', MemW w' g gm gs base m a us v F' mem' ∧ ((zs.length + 63) / 64 + x = m → memL mem' zs.length = zs) ∧ Below w0.heap.size w0 w' := by
  by_cases c : (zs.length + 63) / 64 + x = m
  · have hlen : zs.length ≤ 64 * m := by omega
    refine (boot_ok h x hx A zs.length cap hn c (fun w1 e w' => e = .returned (.int .i64 0) ∧ ∃ F', FP w' g gm a us F' ∧ SpUpd F F' (morePs 0 0 m) (fun i => if 0 ≤ i ∧ i < 0 + zs.length then (zs.getD (i - 0) 0).toNat else spMem F (morePs 0 0 m) i) ∧ Chg (fun k => k = g ∨ k = gm) w1 w') (fun w1 hb1 => ?_)).mono ?_
    · have h1 := h.keep hb1
      refine (spaceWrite_in (hbl.trans (hb1.mono hbl.size)) h1.tp h1.sp h1.ok g0 g1 (.slice A zs.length cap) zs hz 0 (by omega) (by rw [morePs_len]; omega)).mono ?_
      rintro e w' ⟨rfl, h2⟩
      exact ⟨⟨0, rfl⟩, rfl, h2⟩
    · rintro e w' ⟨w1, hb1, rfl, F', hT, hU, hC⟩
      have h1 := h.keep hb1
      have hzb := wf_bytes hz.wf
      refine ⟨by rw [if_pos c], F', fun i => if i < zs.length then memZ zs i else mem i, ⟨hT, h1.sp.chg2 h1.tp hC, hU.ok h1.ok, fun i hi => ?_, fun i hi => ?_⟩, fun _ => ?_, Chg.go (hbl.trans (hb1.mono hbl.size)) hC (fun k hk => by
        rcases hk with rfl | rfl
        · exact g0
        · exact g1) (hbl.trans (hb1.mono hbl.size)).size⟩
      · rw [hU.mem i (by rw [morePs_len]; exact hi)]
        by_cases d : i < zs.length
        · show (if i < zs.length then memZ zs i else mem i) = _
          rw [if_pos d, if_pos ⟨Nat.zero_le _, by omega⟩]
          rfl
        · show (if i < zs.length then memZ zs i else mem i) = _
          rw [if_neg d, if_neg (by omega), h.mm i hi]
      · show (if i < zs.length then memZ zs i else mem i) < 256
        by_cases d : i < zs.length
        · rw [if_pos d]; exact memZ_lt hzb i
        · rw [if_neg d]; exact h.m0 i hi
      · rw [memL_congr (m2 := memZ zs) (fun i hi => if_pos hi)]
        exact memL_memZ hzb
  · refine (boot_no h x hx A zs.length cap hn c).mono ?_
    rintro e w' ⟨rfl, hb⟩
    exact ⟨by rw [if_neg c], F, mem, h.keep hb, fun e => absurd e c, hbl.trans (hb.mono hbl.size)⟩
end Go.Proofs.Ytapcbfeifeobhaa

set_option linter.unusedVariables false
set_option linter.unusedSimpArgs false
namespace Go.Proofs.Ytapcbfeifeobhaa
open Go.RowKit
open Go.Maps (Keyed)
def kinds20 : List CK := [⟨0, .u8, 0⟩, ⟨0, .u8, 0⟩, ⟨0, .u8, 0⟩, ⟨0, .u8, 0⟩]
/-- An instruction's cells. -/
theorem ins20 {w : World} {m : Nat} {cs : List Value} (h : Okay Try.prog w m 24 cs) :
    ∃ o x y z : Nat, cs = [.int .u8 o, .int .u8 x, .int .u8 y, .int .u8 z] ∧ o ≤ 255 ∧ x ≤ 255 ∧ y ≤ 255 ∧ z ≤ 255 := by
  have hf := Okay.fits 6 24 m cs kinds20 h (by kernel_rfl)
  obtain ⟨hl, hg⟩ := FitsAll.get hf
  obtain ⟨v0, h0, ⟨x0, rfl, w0⟩⟩ := hg 0 ⟨0, .u8, 0⟩ rfl
  obtain ⟨v1, h1, ⟨x1, rfl, w1⟩⟩ := hg 1 ⟨0, .u8, 0⟩ rfl
  obtain ⟨v2, h2, ⟨x2, rfl, w2⟩⟩ := hg 2 ⟨0, .u8, 0⟩ rfl
  obtain ⟨v3, h3, ⟨x3, rfl, w3⟩⟩ := hg 3 ⟨0, .u8, 0⟩ rfl
  have b0 := wf_u8 w0
  have b1 := wf_u8 w1
  have b2 := wf_u8 w2
  have b3 := wf_u8 w3
  obtain ⟨a, rfl⟩ : ∃ n : Nat, x0 = n := ⟨x0.toNat, by omega⟩
  obtain ⟨b, rfl⟩ : ∃ n : Nat, x1 = n := ⟨x1.toNat, by omega⟩
  obtain ⟨c, rfl⟩ : ∃ n : Nat, x2 = n := ⟨x2.toNat, by omega⟩
  obtain ⟨d, rfl⟩ : ∃ n : Nat, x3 = n := ⟨x3.toNat, by omega⟩
  refine ⟨a, b, c, d, ?_, by omega, by omega, by omega, by omega⟩
  match cs, hl, h0, h1, h2, h3 with
  | [y0, y1, y2, y3], _, h0, h1, h2, h3 =>
    simp only [List.getElem?_cons_zero, List.getElem?_cons_succ, Option.some.injEq] at h0 h1 h2 h3
    subst h0 h1 h2 h3
    rfl
def codeKinds : List CK := [⟨3, .i64, 24⟩, ⟨3, .i64, 5⟩, ⟨0, .u8, 0⟩]
/-- A code as a value. -/
structure CodeC (w : World) (vl : Option Addr) (n cap : Nat) (vd : Option Addr) (dl dcap c : Nat) : Prop where
  ins : ∃ xs, SR w (.slice vl n cap) n 4 xs ∧ ∀ i, i < n → ∃ o x y z : Nat, (xs.drop (i * 4)).take 4 = [.int .u8 o, .int .u8 x, .int .u8 y, .int .u8 z] ∧ o ≤ 255 ∧ x ≤ 255 ∧ y ≤ 255 ∧ z ≤ 255
  dat : ∃ zd, zd.length = dl ∧ SI w .u8 (.slice vd dl dcap) zd
  c255 : c ≤ 255
theorem CodeC.keep {w w' : World} {vl vd : Option Addr} {n cap dl dcap c : Nat} (h : CodeC w vl n cap vd dl dcap c) (hb : Below w.heap.size w w') : CodeC w' vl n cap vd dl dcap c := by
  obtain ⟨xs, h1, h2⟩ := h.ins
  obtain ⟨zd, h3, h4⟩ := h.dat
  exact ⟨⟨xs, h1.keep hb, h2⟩, ⟨zd, h3, h4.keep hb⟩, h.c255⟩
theorem CodeC.of_arg {W : World} {v : Value} (o : Arg Try.prog W 51 v) : ∃ vl n cap vd dl dcap c, v = .agg #[.slice vl n cap, .slice vd dl dcap, .int .u8 (c : Nat)] ∧ CodeC W vl n cap vd dl dcap c := by
  obtain ⟨cs, rfl, h⟩ := Arg.flat (.inl ⟨_, Try.underlying51⟩) 5 (ks := codeKinds) (by kernel_rfl) o
  obtain ⟨hl, hg⟩ := h.get
  obtain ⟨v0, h0, hf0⟩ := hg 0 ⟨3, .i64, 24⟩ rfl
  obtain ⟨v1, h1, hf1⟩ := hg 1 ⟨3, .i64, 5⟩ rfl
  obtain ⟨v2, h2, ⟨x2, rfl, w2⟩⟩ := hg 2 ⟨0, .u8, 0⟩ rfl
  have b2 := wf_u8 w2
  obtain ⟨c, rfl⟩ : ∃ n : Nat, x2 = n := ⟨x2.toNat, by omega⟩
  have e4 : Try.prog.cellsOf 24 = 4 := by kernel_rfl
  obtain ⟨n, xs, hr, ho⟩ := SR.of_fits (e := 24) (by rw [e4]; omega) hf0
  rw [e4] at hr ho
  obtain ⟨A, cap, rfl, _, _⟩ := hr.form
  obtain ⟨zs, hz⟩ := SI.of_fits (k := .u8) Try.underlying5 (by kernel_rfl) hf1
  obtain ⟨B, dcap, rfl, _, _⟩ := hz.sr.form
  refine ⟨A, n, cap, B, zs.length, dcap, c, ?_, ⟨⟨xs, hr, fun i hi => ?_⟩, ⟨zs, rfl, hz⟩, by omega⟩⟩
  · have hcs : cs = [.slice A n cap, .slice B zs.length dcap, .int .u8 (c : Nat)] := by
      rcases cs with _ | ⟨y0, _ | ⟨y1, _ | ⟨y2, _ | ⟨y3, r⟩⟩⟩⟩
      · exact absurd hl (by simp [codeKinds])
      · exact absurd hl (by simp [codeKinds])
      · exact absurd hl (by simp [codeKinds])
      · have e0 : y0 = .slice A n cap := by simpa using h0
        have e1 : y1 = .slice B zs.length dcap := by simpa using h1
        have e2 : y2 = .int .u8 (c : Nat) := by simpa using h2
        rw [e0, e1, e2]
      · exact absurd hl (by simp [codeKinds])
    rw [hcs]
  · obtain ⟨m, hm⟩ := ho i hi
    obtain ⟨o, x, y, z, h1, h2⟩ := ins20 hm
    exact ⟨o, x, y, z, h1, h2⟩

/-- A block with an instruction, in a world in which only it turned. -/
structure CU (w0 w : World) (N : Nat) : Prop where
  ch : Chg (fun k => k = N) w0 w
  rw : ∃ f : Nat → Nat, (∀ i, f i ≤ 255) ∧ w.rowIs N 24 4 (fun i => .int .u8 (f i))
theorem CU.of_lit {w : World} {N o x y z : Nat} (h : w.heap[N]? = some (.cells #[.int .u8 o, .int .u8 x, .int .u8 y, .int .u8 z] 24 (0, 0))) (ho : o ≤ 255) (hx : x ≤ 255) (hy : y ≤ 255) (hz : z ≤ 255) : CU w w N := by
  refine ⟨Chg.refl _ _, fun i => if i = 0 then o else if i = 1 then x else if i = 2 then y else z, fun i => ?_, ⟨_, h, rfl, fun i hi => ?_⟩⟩
  · dsimp only; split
    · exact ho
    · split
      · exact hx
      · split <;> assumption
  · rcases (show i = 0 ∨ i = 1 ∨ i = 2 ∨ i = 3 by omega) with rfl | rfl | rfl | rfl <;> rfl
section
variable {w0 w w' : World} {N : Nat}
theorem CU.lit (h : CU w0 w N) : ∃ o x y z : Nat, w.heap[N]? = some (.cells #[.int .u8 o, .int .u8 x, .int .u8 y, .int .u8 z] 24 (0, 0)) ∧ o ≤ 255 ∧ x ≤ 255 ∧ y ≤ 255 ∧ z ≤ 255 := by
  obtain ⟨f, h1, h2⟩ := h.rw
  exact ⟨f 0, f 1, f 2, f 3, rowIs_arr h2, h1 0, h1 1, h1 2, h1 3⟩
theorem CU.set (h : CU w0 w N) (i : Nat) (z : Int) (h0 : 0 ≤ z) (h1 : z ≤ 255) : CU w0 (w.setCell ⟨N, i, none⟩ (.int .u8 z)) N := by
  obtain ⟨f, k1, k2⟩ := h.rw
  refine ⟨h.ch.trans (Chg.of_one (S := fun k => k = N) (one_setCell w N i _) rfl) (fun k _ e => e), fun j => if j = i then z.toNat else f j, fun j => ?_, (k2.set i (.int .u8 z)).congr (fun j hj => ?_)⟩
  · dsimp only; split
    · omega
    · exact k1 j
  · dsimp only
    by_cases e : j = i
    · subst e; simp; omega
    · simp [e]
theorem CU.below (h : CU w0 w N) (hb : Below w.heap.size w w') : CU w0 w' N := by
  obtain ⟨f, k1, k2⟩ := h.rw
  exact ⟨h.ch.trans (Chg.of_below (fun k => k = N) hb) (fun k _ e => e), f, k1, k2.of_block (hb.block N k2.lt)⟩
theorem CU.bl {B : Nat} {wb : World} (h : CU w0 w N) (hb : Below B wb w0) (hN : B ≤ N) (hB : B ≤ w0.heap.size) : Below B wb w := Chg.go hb h.ch (fun k e => by rw [e]; exact hN) hB
end
/-- The bytes so far. -/
def OutP (B : Nat) (W : World) (N : Nat) (cs : Array Value) (k : Nat) (s : Value) (w : World) : Prop :=
  ∃ (A : Option Addr) (c : Nat) (zs : List Int), s = .slice A zs.length c ∧ zs.length ≤ 4 * k ∧ (∀ z ∈ zs, 0 ≤ z ∧ z ≤ 255) ∧ w.ownsRow B 5 1 (.slice A zs.length c) zs.length (zs.map (Value.int .u8)) ∧ Below B W w ∧ w.heap[N]? = some (.cells cs 51 (0, 0))
theorem u8_rowI : (Try.prog.info? 5).map (fun i => (i.zero, i.size, i.bytes)) = some (some (.int .u8 0), 1, 1) := by kernel_rfl
theorem own_len {w : World} {B : Nat} {e : TypeId} {size k n c : Nat} {A : Option Addr} {xs : List Value} (h : w.ownsRow B e size (.slice A k c) n xs) : k = n := by
  obtain ⟨ad, c', h'⟩ := own_form h
  injection h'
theorem own_codeNe {w : World} {B n N : Nat} {v : Value} {xs : List Value} {cs : Array Value} (h : w.ownsRow B 5 1 v n xs) (hN : w.heap[N]? = some (.cells cs 51 (0, 0))) (e : some N = v.ownBlock) : False := by
  obtain ⟨_, cur, h2⟩ := own_blk h e.symm
  rw [hN] at h2
  injection h2 with h2
  injection h2 with _ h2 _
  exact absurd h2 (by decide)
theorem form_any (o : Nat) (ho : o ≤ 255) (w : World) : Calls Try.prog 9 #[.int .i64 o] w fun e w' => ∃ f : Int, e = .returned (.int .i64 f) ∧ -1 ≤ f ∧ f ≤ 8 ∧ Below w.heap.size w w' := by
  by_cases h : 1 ≤ o ∧ o ≤ 39
  · have h9 := formOf_le o (by omega) h.1
    exact (refForm_in o (by omega) (by omega) w).mono fun e w' ⟨he, hb⟩ => ⟨_, he, by omega, by rw [Int.toNat_natCast]; omega, hb⟩
  · exact (refForm_out o (by omega) w).mono fun e w' ⟨he, hb⟩ => ⟨_, he, by omega, by omega, by subst hb; exact Below.refl _ _⟩
set_option maxRecDepth 100000 in
set_option maxHeartbeats 16000000 in
theorem codeBytes_in {W : World} {vl vd : Option Addr} {n cap dl dcap c : Nat} (h : CodeC W vl n cap vd dl dcap c) :
    Calls Try.prog 15 #[.agg #[.slice vl n cap, .slice vd dl dcap, .int .u8 (c : Nat)]] W fun e w' => ∃ (A : Option Addr) (cp : Nat) (zs : List Int), e = .returned (.slice A zs.length cp) ∧ SI w' .u8 (.slice A zs.length cp) zs ∧ zs.length ≤ 220 ∧ Below W.heap.size W w' := by
  obtain ⟨xs, hs, hx⟩ := h.ins
  have hn1 : n ≤ cap := by obtain ⟨_, _, hv, h1, h2⟩ := hs.form; injection hv with _ _ e; omega
  have hn2 : cap ≤ maxLen := by obtain ⟨_, _, hv, h1, h2⟩ := hs.form; injection hv with _ _ e; omega
  have hnm : (n : Int) ≤ 9223372036854775807 := by unfold maxLen at hn2; omega
  obtain ⟨zd, hzd, hd⟩ := h.dat
  have hd1 : dl ≤ dcap := by obtain ⟨_, _, hv, h1, h2⟩ := hd.sr.form; injection hv with _ _ e; omega
  have hd2 : dcap ≤ maxLen := by obtain ⟨_, _, hv, h1, h2⟩ := hd.sr.form; injection hv with _ _ e; omega
  have HS := Lib.hid hs
  have HX := Lib.hid hx
  have HD := Lib.hid hd
  have HZD := Lib.hid hzd
  have HD2 := Lib.hid hd2
  clear hs hx hd hn2 h hzd hd2
  have hb0 := bnew W (.cells #[.slice vl n cap, .slice vd dl dcap, .int .u8 (c : Nat)] 51)
  have ha0 := heap_alloc_last W (.cells #[.slice vl n cap, .slice vd dl dcap, .int .u8 (c : Nat)] 51)
  have hc0 := rowcell ha0
  have HB0 := Lib.hid hb0
  have HA0 := Lib.hid ha0
  clear hb0 ha0
  go_enter Try.func15, Try.ntmps15
  go_upto_block 0 with fail
  obtain ⟨N0, hN0⟩ : ∃ N0, N0 = W.heap.size := ⟨_, rfl⟩
  have HN0 := Lib.hid hN0
  rw [← hN0] at HA0 hc0 ⊢
  generalize W.alloc (.cells #[.slice vl n cap, .slice vd dl dcap, .int .u8 (c : Nat)] 51) = w0 at *
  clear hN0 hc0
  have hst : OutP W.heap.size W N0 #[.slice vl n cap, .slice vd dl dcap, .int .u8 (c : Nat)] 0 (.slice none 0 0) w0 :=
    ⟨none, 0, [], rfl, by simp, fun z hz => (by cases hz), World.ownsRow_nil _ _ _ _, HB0.out, HA0.out⟩
  have HST := Lib.hid hst
  clear hst
  go_cut [3] (fun s3 wx => OutP W.heap.size W N0 #[.slice vl n cap, .slice vd dl dcap, .int .u8 (c : Nat)] 40 s3 wx)
  case first =>
    go_wp2_with fail
    go_loopw [3, 10] (fun s3 s10 wr => ∃ k : Nat, k ≤ n ∧ k ≤ 40 ∧ s10 = .int .i64 k ∧ OutP W.heap.size W N0 #[.slice vl n cap, .slice vd dl dcap, .int .u8 (c : Nat)] k s3 wr) (fun _ s10 _ => n - (intOf s10).toNat)
    case atStart => exact ⟨0, by omega, by omega, rfl, HST.out⟩
    case round =>
      obtain ⟨k, hk, hk40, rfl, hout⟩ := hrel
      obtain ⟨A3, c3, zs, rfl, hz1, hz2, hown, hbl, hN0⟩ := hout
      have HZ2 := Lib.hid hz2
      have HOWN := Lib.hid hown
      have HBL := Lib.hid hbl
      have HN := Lib.hid hN0
      clear hz2 hown hbl hN0 HST HA0 HB0
      by_cases hlt : k < n
      · obtain ⟨o, x, y, z, hC, k1, k2, k3, k4⟩ := HX.out k hlt
        rcases HS.out.cases with ⟨h, _⟩ | ⟨_, ga, o_, cz, hsl, _, _, hga, hca⟩
        · omega
        cases hsl
        have hpc : ∀ j v, (#[.int .u8 o, .int .u8 x, .int .u8 y, .int .u8 z] : Array Value).toList[j]? = some v → wr.cell? ⟨ga, o_ + k * 4 + j, none⟩ = some v := fun j v hj => by
          have hj6 : j < 4 := by
            rcases Nat.lt_or_ge j 4 with h | h
            · exact h
            · rw [List.getElem?_eq_none (by simpa using h)] at hj; cases hj
          rw [World.cell?_of_block (w := W) (a := ⟨ga, o_ + k * 4 + j, none⟩) (HBL.out.block ga hga), Nat.add_assoc, hca (k * 4 + j) (by omega)]
          have hC' : (xs.drop (k * 4)).take 4 = (#[.int .u8 o, .int .u8 x, .int .u8 y, .int .u8 z] : Array Value).toList := hC
          rw [← hC'] at hj
          simpa [List.getElem?_take_of_lt hj6] using hj
        have HPC := Lib.hid hpc
        clear hpc hca hC
        have hlti : (k : Int) < n := by omega
        go_upto_region 5 with (first | (refine wpList_load_pieceTo rfl 24 (.tmp 13) rfl (some 14) rfl ga (o_ + k * 4) rfl #[.int .u8 o, .int .u8 x, .int .u8 y, .int .u8 z] _ HPC.out Try.underlying24 rfl (by kernel_rfl) ?_))
        have hbA := bnew wr (.cells #[.int .u8 o, .int .u8 x, .int .u8 y, .int .u8 z] 24)
        have hA := heap_alloc_last wr (.cells #[.int .u8 o, .int .u8 x, .int .u8 y, .int .u8 z] 24)
        obtain ⟨N, hN⟩ : ∃ N, N = wr.heap.size := ⟨_, rfl⟩
        have HNN := Lib.hid (Nat.le_of_eq hN.symm)
        rw [← hN] at hA ⊢
        generalize wr.alloc (.cells #[.int .u8 o, .int .u8 x, .int .u8 y, .int .u8 z] 24) = wA at *
        have HBA := Lib.hid hbA
        have HCU := Lib.hid (CU.of_lit hA k1 k2 k3 k4)
        have hcA := rowcell hA
        have hfA := rowfree hA
        have HFIN := Lib.hid (fun wx (hc : CU wA wx N) => hc.bl HBA.out HNN.out HBA.out.size)
        clear hbA hA hN hga
        by_cases h40 : 40 ≤ k
        · have g40 : (40 : Int) ≤ k := by omega
          go_wp2_with fail
          go_meet
          exact ⟨A3, c3, zs, rfl, by omega, HZ2.out, own_below HOWN.out HBA.out, HBL.out.trans (HBA.out.mono HBL.out.size), bkeep HBA.out HN.out⟩
        · have g40 : ¬ ((40 : Int) ≤ k) := by omega
          go_upto_if 19 with fail
          go_cut [] from 19 to 131 (fun wx => CU wA wx N)
          case first =>
            by_cases h200 : o < 200
            · have g200 : (o : Int) < 200 := by omega
              go_upto_region 8 with fail
              have hcu1 : CU wA (wA.setCell ⟨N, 0, none⟩ (.int .u8 (1 + (o : Int) % 38))) N := HCU.out.set 0 _ (by omega) (by omega)
              generalize wA.setCell ⟨N, 0, none⟩ (.int .u8 (1 + (o : Int) % 38)) = w1 at *
              obtain ⟨o1, x1, y1, z1, hl1, q1, q2, q3, q4⟩ := hcu1.lit
              have HC1 := Lib.hid hcu1
              have HL1 := Lib.hid hl1
              have hc1 := rowcell hl1
              clear hcu1 hl1 hcA hfA k1 k2 k3 k4 g200 h200
              go_wp2_with fail
              refine (form_any o1 q1 _).mono ?_; rintro e w2 ⟨f, rfl, hf1, hf2, hb2⟩
              have hcu2 := HC1.out.below hb2
              have hl2 := bkeep hb2 HL1.out
              have HC2 := Lib.hid hcu2
              have HL2 := Lib.hid hl2
              have hc2 := rowcell hl2
              have hf2' := rowfree hl2
              clear hcu2 hl2 hc1 hb2
              rcases (show f = -1 ∨ f = 0 ∨ f = 1 ∨ f = 2 ∨ f = 3 ∨ f = 4 ∨ f = 5 ∨ f = 6 ∨ f = 7 ∨ f = 8 by omega) with rfl | rfl | rfl | rfl | rfl | rfl | rfl | rfl | rfl | rfl
              · as_aux_lemma =>
                  go_wp2_with fail
                  go_meet
                  repeat (first | exact HC2.out | refine CU.set ?_ _ _ ?_ ?_)
                  all_goals omega
              · as_aux_lemma =>
                  go_wp2_with fail
                  go_meet
                  repeat (first | exact HC2.out | refine CU.set ?_ _ _ ?_ ?_)
                  all_goals omega
              · as_aux_lemma =>
                  go_wp2_with fail
                  go_meet
                  repeat (first | exact HC2.out | refine CU.set ?_ _ _ ?_ ?_)
                  all_goals omega
              · as_aux_lemma =>
                  go_wp2_with fail
                  go_meet
                  repeat (first | exact HC2.out | refine CU.set ?_ _ _ ?_ ?_)
                  all_goals omega
              · as_aux_lemma =>
                  go_wp2_with fail
                  go_meet
                  repeat (first | exact HC2.out | refine CU.set ?_ _ _ ?_ ?_)
                  all_goals omega
              · as_aux_lemma =>
                  go_wp2_with fail
                  go_meet
                  repeat (first | exact HC2.out | refine CU.set ?_ _ _ ?_ ?_)
                  all_goals omega
              · as_aux_lemma =>
                  go_upto_region 21 with fail
                  have hcu3 : CU wA (w2.setCell ⟨N, 1, none⟩ (.int .u8 ((x1 : Int) % 16))) N := HC2.out.set 1 _ (by omega) (by omega)
                  generalize w2.setCell ⟨N, 1, none⟩ (.int .u8 ((x1 : Int) % 16)) = w3 at *
                  obtain ⟨o3, x3, y3, z3, hl3, r1, r2, r3, r4⟩ := hcu3.lit
                  have HC3 := Lib.hid hcu3
                  have HL3 := Lib.hid hl3
                  have hc3 := rowcell hl3
                  clear hcu3 hl3 hc2 hf2'
                  by_cases h31 : o3 = 31 ∨ o3 = 32
                  · have g31 : (((o3 : Int) == 31) || ((o3 : Int) == 32)) = true := by rcases h31 with rfl | rfl <;> decide
                    rcases h31 with rfl | rfl
                    all_goals
                      go_wp2_with fail
                      obtain ⟨nn, hnn⟩ : ∃ nn, nn = IntKind.u16.wrap ((y3 : Int) % 16 - 8) := ⟨_, rfl⟩
                      have hn0 : 0 ≤ nn ∧ nn ≤ 65535 := by rw [hnn]; simp [IntKind.wrap, IntKind.bits, IntKind.signed]; omega
                      rw [← hnn]
                      clear hnn
                      refine (opsSetWide_any _ x3 y3 z3 nn hn0.1 hn0.2 _).mono ?_; rintro e w4 ⟨rfl, hb4⟩
                      have hcu4 := HC3.out.below hb4
                      have hl4 := bkeep hb4 HL3.out
                      have HC4 := Lib.hid hcu4
                      have hc4 := rowcell hl4
                      have hf4 := rowfree hl4
                      clear hcu4 hl4 hc3 hb4
                      go_wp2_with fail
                      go_meet
                      repeat (first | exact HC4.out | refine CU.set ?_ _ _ ?_ ?_)
                      all_goals omega
                  · have g31 : ((o3 : Int) == 31) = false := by simp; omega
                    have g32 : ((o3 : Int) == 32) = false := by simp; omega
                    go_wp2_with fail
                    go_meet
                    exact HC3.out
              · as_aux_lemma =>
                  go_upto_region 25 with fail
                  have hcu3 : CU wA (w2.setCell ⟨N, 1, none⟩ (.int .u8 0)) N := HC2.out.set 1 _ (by omega) (by omega)
                  generalize w2.setCell ⟨N, 1, none⟩ (.int .u8 0) = w3 at *
                  obtain ⟨o3, x3, y3, z3, hl3, r1, r2, r3, r4⟩ := hcu3.lit
                  have HC3 := Lib.hid hcu3
                  have HL3 := Lib.hid hl3
                  have hc3 := rowcell hl3
                  clear hcu3 hl3 hc2 hf2'
                  go_wp2_with fail
                  obtain ⟨nn, hnn⟩ : ∃ nn, nn = IntKind.u16.wrap ((y3 : Int) % 16 - 8) := ⟨_, rfl⟩
                  have hn0 : 0 ≤ nn ∧ nn ≤ 65535 := by rw [hnn]; simp [IntKind.wrap, IntKind.bits, IntKind.signed]; omega
                  rw [← hnn]
                  clear hnn
                  refine (opsSetWide_any o3 x3 y3 z3 nn hn0.1 hn0.2 _).mono ?_; rintro e w4 ⟨rfl, hb4⟩
                  have hcu4 := HC3.out.below hb4
                  have hl4 := bkeep hb4 HL3.out
                  have HC4 := Lib.hid hcu4
                  have hc4 := rowcell hl4
                  have hf4 := rowfree hl4
                  clear hcu4 hl4 hc3 hb4
                  go_wp2_with fail
                  go_meet
                  repeat (first | exact HC4.out | refine CU.set ?_ _ _ ?_ ?_)
                  all_goals omega
              · as_aux_lemma =>
                  go_wp2_with fail
                  go_meet
                  repeat (first | exact HC2.out | refine CU.set ?_ _ _ ?_ ?_)
                  all_goals omega
              · as_aux_lemma =>
                  go_wp2_with fail
                  go_meet
                  repeat (first | exact HC2.out | refine CU.set ?_ _ _ ?_ ?_)
                  all_goals omega
            · have g200 : ¬ ((o : Int) < 200) := by omega
              by_cases h230 : o < 230
              · have g230 : (o : Int) < 230 := by omega
                go_wp2_with fail
                go_meet
                repeat (first | exact HCU.out | refine CU.set ?_ _ _ ?_ ?_)
                all_goals omega
              · have g230 : ¬ ((o : Int) < 230) := by omega
                go_wp2_with fail
                go_meet
                exact HCU.out
          case rest =>
            obtain ⟨o2, x2, y2, z2, hl2, q1, q2, q3, q4⟩ := hcut.lit
            have hbw := HFIN.out _ hcut
            have hc2 := rowcell hl2
            have HBW := Lib.hid hbw
            have HN2 := Lib.hid (bkeep hbw HN.out)
            have HO2 := Lib.hid (own_below HOWN.out hbw)
            clear hcut hbw hl2 hcA hfA HCU HN HOWN HBA
            go_at_K
            go_step
            go_wp2_with fail
            refine (opsPack_any o2 x2 y2 z2 _).mono ?_; rintro e w3 ⟨rfl, hb3⟩
            have hb4 := bnew w3 (.cells #[.int .u8 o2, .int .u8 x2, .int .u8 y2, .int .u8 z2] 28)
            have hl4 := heap_alloc_last w3 (.cells #[.int .u8 o2, .int .u8 x2, .int .u8 y2, .int .u8 z2] 28)
            have hb5 := bnext hb3 hb4
            have HB5 := Lib.hid (HBW.out.trans (hb5.mono HBW.out.size))
            have HN5 := Lib.hid (bkeep hb5 HN2.out)
            have HO5 := Lib.hid (own_below HO2.out hb5)
            clear hb3 hb4 hb5 hc2
            go_upto_region 31 with fail
            obtain ⟨B4, hB4⟩ : ∃ B4, B4 = w3.heap.size := ⟨_, rfl⟩
            rw [← hB4] at hl4 ⊢
            generalize w3.alloc (.cells #[.int .u8 o2, .int .u8 x2, .int .u8 y2, .int .u8 z2] 28) = w4 at *
            clear hB4
            have HSR := Lib.hid (show SR w4 (.slice (some ⟨B4, 0, none⟩) 4 4) 4 1 ([(o2 : Int), x2, y2, z2].map (Value.int .u8)) from ⟨rfl, .inr ⟨⟨B4, 0, none⟩, 4, rfl, Nat.le_refl _, by simp [maxLen], fun _ => ⟨rfl, rowlt hl4, fun i hi => by
              show w4.cell? ⟨B4, 0 + i, none⟩ = _
              rw [Nat.zero_add, rowcell hl4, ← Array.getElem?_toList]
              rfl⟩⟩⟩)
            have HSZ := Lib.hid (show W.heap.size ≤ w4.heap.size from Nat.le_trans HBL.out.size HB5.out.size)
            clear hl4
            go_wp2_with (refine wpList_append_sr rfl (.tmp 134) (.tmp 135) 32 rfl (some 136) rfl W.heap.size 5 (.int .u8 0) 1 1 Try.underlying32 u8_rowI rfl (by omega) (.slice A3 zs.length c3) (.slice (some ⟨B4, 0, none⟩) 4 4) zs.length 4 (zs.map (Value.int .u8)) ([(o2 : Int), x2, y2, z2].map (Value.int .u8)) (by go_simp) HO5.out (by go_simp) HSR.out (ints_one _ _) (by simp only [maxLen]; omega) (by omega) HSZ.out ?_; intro v6 w6 hown6 hg6 hat6; obtain ⟨ad6, n6, c6, rfl⟩ := own_form' hown6; obtain rfl := (own_len hown6); have HW6 := Lib.hid hown6; have HG6 := Lib.hid hg6; clear hown6 hg6 hat6)
            go_roundw
            case rel =>
              have hlen : (zs ++ [(o2 : Int), x2, y2, z2]).length = zs.length + 4 := by simp
              refine ⟨k + 1, by omega, by omega, by go_num, ad6, c6, zs ++ [(o2 : Int), x2, y2, z2], by rw [hlen], by rw [hlen]; omega, fun v hv => ?_, ?_, ?_, ?_⟩
              · rcases List.mem_append.1 hv with h | h
                · exact HZ2.out v h
                · simp only [List.mem_cons, List.not_mem_nil, or_false] at h; rcases h with rfl | rfl | rfl | rfl <;> omega
              · rw [hlen, List.map_append]; exact HW6.out
              · exact (HBL.out.trans (HB5.out.mono HBL.out.size)).grown HG6.out HSZ.out (fun j hj => by obtain ⟨h, _⟩ := own_blk HO5.out hj; exact h)
              · rw [HG6.out.block N0 (rowlt HN5.out) (fun e => own_codeNe HO5.out HN5.out e)]; exact HN5.out
            case measure => simp [intOf]; omega
      · obtain rfl : k = n := by omega
        go_wp2_with fail
        go_meet
        exact ⟨A3, c3, zs, rfl, by omega, HZ2.out, HOWN.out, HBL.out, HN.out⟩
  case rest =>
    obtain ⟨A3, c3, zs, rfl, hz1, hz2, hown, hbl, hN0⟩ := hcut
    obtain ⟨q, hq, hqd, hq60⟩ : ∃ q : Nat, q = min dl 60 ∧ q ≤ dl ∧ q ≤ 60 := ⟨_, rfl, by omega, by omega⟩
    have HSR := Lib.hid (show SR wc (.slice vd q dcap) q 1 ((zd.take q).map (Value.int .u8)) from by
      have h1 := (HD.out.keep hbl).sr
      rw [HZD.out] at h1
      have h2 := h1.prefix q hqd
      rwa [List.map_take])
    have HZ2 := Lib.hid hz2
    have HW := Lib.hid hown
    have HBL := Lib.hid hbl
    have hc0 := rowcell hN0
    have HSZ := Lib.hid hbl.size
    have HQL := Lib.hid (show (zd.take q).length = q by rw [List.length_take, HZD.out]; omega)
    clear hz2 hown hbl hN0 HST HA0 HB0
    go_at_K
    go_step
    have fq : min (dl : Int) 60 = q := by omega
    have fin : ∀ (v6 : Value) (w6 : World), w6.ownsRow W.heap.size 5 1 v6 (zs.length + q) (zs.map (Value.int .u8) ++ (zd.take q).map (Value.int .u8)) → wc.grownBy w6 (Value.slice A3 zs.length c3).ownBlock → ∃ (A : Option Addr) (cp : Nat) (zs : List Int), Ending.returned v6 = .returned (.slice A zs.length cp) ∧ SI w6 .u8 (.slice A zs.length cp) zs ∧ zs.length ≤ 220 ∧ Below W.heap.size W w6 := fun v6 w6 h1 h2 => by
      obtain ⟨ad6, c6, rfl⟩ := own_form h1
      have hlen : (zs ++ zd.take q).length = zs.length + q := by rw [List.length_append, HQL.out]
      refine ⟨ad6, c6, zs ++ zd.take q, by rw [hlen], ⟨?_, fun v hv => ?_⟩, by rw [hlen]; omega, HBL.out.grown h2 HSZ.out (fun j hj => by obtain ⟨h, _⟩ := own_blk HW.out hj; exact h)⟩
      · rw [hlen, List.map_append]; exact SR.of_own h1
      · rcases List.mem_append.1 hv with h | h
        · have := HZ2.out v h
          simp [Lit.wf, IntKind.min, IntKind.max, IntKind.bits, IntKind.signed]; omega
        · exact HD.out.wf v (List.mem_of_mem_take h)
    have FIN := Lib.hid fin
    clear fin
    rcases (show dl ≤ 60 ∨ 60 < dl by omega) with hle | hle
    · have g1 : (dl : Int) ≤ 60 := by omega
      have g4 : (dl : Int) ≤ dcap := by omega
      obtain rfl : q = dl := by omega
      clear fq hq
      go_wp2_with (refine wpList_append_sr rfl (.tmp 138) (.tmp 145) 32 rfl (some 146) rfl W.heap.size 5 (.int .u8 0) 1 1 Try.underlying32 u8_rowI rfl (by omega) (.slice A3 zs.length c3) (.slice vd _ dcap) zs.length _ (zs.map (Value.int .u8)) _ (by go_simp) HW.out (by go_simp) HSR.out (ints_one _ _) (by simp only [maxLen]; omega) (by omega) HSZ.out ?_; intro v6 w6 hown6 hg6 hat6; have HW6 := Lib.hid hown6; have HG6 := Lib.hid hg6; clear hown6 hg6 hat6)
      go_ret
      exact FIN.out _ _ HW6.out HG6.out
    · have g1 : ¬ ((dl : Int) ≤ 60) := by omega
      have g4 : (60 : Int) ≤ dcap := by omega
      have g5 : 60 ≤ dcap := by omega
      obtain rfl : q = 60 := by omega
      clear fq hq
      go_wp2_with (refine wpList_append_sr rfl (.tmp 138) (.tmp 145) 32 rfl (some 146) rfl W.heap.size 5 (.int .u8 0) 1 1 Try.underlying32 u8_rowI rfl (by omega) (.slice A3 zs.length c3) (.slice vd _ dcap) zs.length _ (zs.map (Value.int .u8)) _ (by go_simp) HW.out (by go_simp) HSR.out (ints_one _ _) (by simp only [maxLen]; omega) (by omega) HSZ.out ?_; intro v6 w6 hown6 hg6 hat6; have HW6 := Lib.hid hown6; have HG6 := Lib.hid hg6; clear hown6 hg6 hat6)
      go_ret
      exact FIN.out _ _ HW6.out HG6.out
end Go.Proofs.Ytapcbfeifeobhaa

set_option linter.unusedVariables false
set_option linter.unusedSimpArgs false
namespace Go.Proofs.Ytapcbfeifeobhaa
open Go.RowKit
open Go.Maps (Keyed)
def regC (R : Nat → Int) (i : Nat) : Value := .int .u32 (R i)
theorem regs_of_arg {W : World} {v : Value} (o : Arg Try.prog W 34 v) : ∃ R : Nat → Int, v = .agg (rowArr 16 (regC R)) ∧ ∀ i, i < 16 → 0 ≤ R i ∧ R i ≤ 4294967295 := by
  obtain ⟨cs, rfl, hs, n, hn⟩ := Arg.array Try.underlying34 o
  obtain ⟨zs, hl, hc, hw⟩ := Okay.ints Try.underlying34 Try.underlying25 (by kernel_rfl) (by kernel_rfl) hn
  refine ⟨fun i => zs.getD i 0, ?_, fun i hi => ?_⟩
  · congr 1
    apply Array.ext'
    rw [hc]
    apply List.ext_getElem (by simp [hl, rowArr])
    intro i h1 h2
    have hi : i < zs.length := by simpa using h1
    simp [rowArr, regC, List.getD_eq_getElem?_getD, hi]
  · have := wf_u32 (hw (zs.getD i 0) (by
      rw [List.getD_eq_getElem?_getD, List.getElem?_eq_getElem (by omega)]
      exact List.getElem_mem _))
    omega
theorem built_state (R : Nat → Int) (M : Nat → Nat) : Try.prog.built 36 [(0, .agg (rowArr 16 (regC R)))] = some (rowArr 17 (stV ⟨R, 0, M⟩)) := by kernel_rfl
theorem regs_size (R : Nat → Int) : (Try.prog.info? 34).map (·.size) = some (rowArr 16 (regC R)).size := by rw [rowArr_size]; kernel_rfl
theorem state_size (s : Mach) : (Try.prog.info? 36).map (·.size) = some (rowArr 17 (stV s)).size := by rw [rowArr_size]; kernel_rfl
theorem state_one (s : Mach) : ∀ v ∈ (rowArr 17 (stV s)).toList, v.oneCell' = true := fun v hv => by
  obtain ⟨i, hi⟩ := List.mem_iff_getElem?.1 hv
  obtain ⟨h1, rfl⟩ := rowArr_get _ _ _ _ hi
  unfold stV
  split <;> rfl
/-- '==' on states. -/
theorem eqState {s : Mach} (r0 : ∀ i, i < 16 → 0 ≤ s.R i ∧ s.R i ≤ 4294967295) (a0 : 0 ≤ s.at_ ∧ s.at_ ≤ 4294967295) (w : World) : (Op.equalIn 10000 36 (.agg (rowArr 17 (stV s))) (.agg (rowArr 17 (stV s)))).run Try.prog w = .ok true w := by
  have zS : Try.prog.cellsOf 36 = 17 := by kernel_rfl
  have z16 : Try.prog.cellsOf 34 = 16 := by kernel_rfl
  have z32 : Try.prog.cellsOf 25 = 1 := by kernel_rfl
  have e32 : ∀ d (x : Int), 0 ≤ x ∧ x ≤ 4294967295 → Try.prog.keyLits (d + 1) 25 [.int .u32 x] = some [.int .u32 x] := fun d x hx => by
    simp [Program.keyLits, Try.underlying25, u32_wf hx]
  have key : Try.prog.keyLits 3 36 (rowArr 17 (stV s)).toList = some (((List.range 16).map fun i => s.R i).map (Lit.int .u32) ++ [.int .u32 s.at_]) := by
    have h1 : (rowArr 17 (stV s)).toList = ((List.range 16).map fun i => s.R i).map (Value.int .u32) ++ [.int .u32 s.at_] := rfl
    have h2 : Try.prog.keyLits 2 34 (((List.range 16).map fun i => s.R i).map (Value.int .u32)) = some (((List.range 16).map fun i => s.R i).map (Lit.int .u32)) :=
      keyLits_ints (P := Try.prog) Try.underlying34 Try.underlying25 z32 z16 (by simp) (fun z hz => by
        obtain ⟨i, hi, rfl⟩ := List.mem_map.1 hz
        exact u32_wf (r0 i (List.mem_range.1 hi)))
    rw [h1]
    obtain ⟨L, hL⟩ : ∃ L, L = (List.range 16).map fun i => s.R i := ⟨_, rfl⟩
    rw [← hL] at h2 ⊢
    have hl : L.length = 16 := by rw [hL]; simp
    unfold Program.keyLits
    have t1 : (L.map (Value.int .u32) ++ [Value.int .u32 s.at_]).take 16 = L.map (Value.int .u32) := by rw [List.take_append_of_le_length (by simp [hl]), List.take_of_length_le (by simp [hl])]
    have t2 : (L.map (Value.int .u32) ++ [Value.int .u32 s.at_]).drop 16 = [Value.int .u32 s.at_] := by rw [List.drop_append_of_le_length (by simp [hl]), List.drop_of_length_le (by simp [hl])]; rfl
    simp [Try.underlying36, zS, z16, z32, hl, t1, t2, h2, e32 1 _ a0]
  have formed : (Value.agg (rowArr 17 (stV s))).formed Try.prog 36 = true := by
    simp [Value.formed, Try.underlying36, zS, rowArr_size]
  exact equal_key 3 (by omega) (by kernel_rfl) formed formed key key (b := true) (by simp)
/-- '==' on ends. -/
theorem eqEnd {x : Nat} {a b : Int} (hx : x ≤ 255) (ha : -9223372036854775808 ≤ a ∧ a ≤ 9223372036854775807) (hb : -9223372036854775808 ≤ b ∧ b ≤ 9223372036854775807) (w : World) : (Op.equalIn 10000 43 (.agg #[.int .u8 x, .int .i64 a, .int .i64 b]) (.agg #[.int .u8 x, .int .i64 a, .int .i64 b])).run Try.prog w = .ok true w := by
  have zS : Try.prog.cellsOf 43 = 3 := by kernel_rfl
  have z8 : Try.prog.cellsOf 41 = 1 := by kernel_rfl
  have zi : Try.prog.cellsOf 3 = 1 := by kernel_rfl
  have wi : ∀ x : Int, -9223372036854775808 ≤ x ∧ x ≤ 9223372036854775807 → (Lit.int .i64 x).wf = true := fun x hx => by simp [Lit.wf, IntKind.min, IntKind.max, IntKind.bits, IntKind.signed]; omega
  have e8 : ∀ d, Try.prog.keyLits (d + 1) 41 [.int .u8 (x : Int)] = some [.int .u8 x] := fun d => by
    simp [Program.keyLits, Try.underlying41, u8_wf (x := (x : Int)) (by omega)]
  have ei : ∀ d (y : Int), -9223372036854775808 ≤ y ∧ y ≤ 9223372036854775807 → Try.prog.keyLits (d + 1) 3 [.int .i64 y] = some [.int .i64 y] := fun d y hy => by
    simp [Program.keyLits, Try.underlying3, wi y hy]
  have key : Try.prog.keyLits 3 43 (#[.int .u8 x, .int .i64 a, .int .i64 b] : Array Value).toList = some [.int .u8 x, .int .i64 a, .int .i64 b] := by
    unfold Program.keyLits
    simp [Try.underlying43, zS, z8, zi, e8 1, ei 1 a ha, ei 1 b hb]
  have formed : (Value.agg #[.int .u8 (x : Int), .int .i64 a, .int .i64 b]).formed Try.prog 43 = true := by
    simp [Value.formed, Try.underlying43, zS]
  exact equal_key 3 (by omega) (by kernel_rfl) formed formed key key (b := true) (by simp)
end Go.Proofs.Ytapcbfeifeobhaa
