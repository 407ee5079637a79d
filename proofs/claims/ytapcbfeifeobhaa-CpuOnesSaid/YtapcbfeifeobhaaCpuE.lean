/- The machine: instructions that can always be done: what they come to. -/
import Derived.Test.YtapcbfeifeobhaaCpuD
import Derived.Test.YtapcbfeifeobhaaCpuA
import Derived.Test.YtapcbfeifeobhaaOpsC
import Derived.Test.YtapcbfeifeobhaaSpcJ
import Derived.Laws.BitsLemmas
import Derived.Lib.EndianBits
set_option linter.unusedVariables false
set_option linter.unusedSimpArgs false
namespace Go.Proofs.Ytapcbfeifeobhaa
open Go.RowKit
/-- A state's cells. -/
def stV (s : Mach) (i : Nat) : Value := if i < 16 then .int .u32 (s.R i) else .int .u32 s.at_
def setR (s : Mach) (i : Nat) (v : Int) : Mach := ⟨fun j => if j = i then v else s.R j, s.at_, s.mem⟩
theorem stV_set (s : Mach) (i : Nat) (hi : i < 16) (v : Int) (j : Nat) (hj : j < 17) : stV (setR s i v) j = if j = i then .int .u32 v else stV s j := by
  unfold stV setR
  by_cases h : j = i
  · subst h; simp [hi]
  · simp [h]
theorem row_set {w : World} {gx : Nat} {s : Mach} (h : w.rowIs gx 36 17 (stV s)) (i : Nat) (hi : i < 16) (v : Int) : (w.setCell ⟨gx, i, none⟩ (.int .u32 v)).rowIs gx 36 17 (stV (setR s i v)) :=
  (h.set i (.int .u32 v)).congr (fun j hj => (stV_set s i hi v j hj).symm)
def wideI (y z : Nat) : Int := (y : Int) + 256 * z
def toI (y z : Nat) (nx : Int) : Int := (nx + jump (wideI y z) * 4 % 4294967296) % 4294967296
def sx8 (v : Int) : Int := wrap32 (IntKind.i8.wrap v) % 4294967296
def sx16 (v : Int) : Int := wrap32 (IntKind.i16.wrap v) % 4294967296
/-- An instruction that can always be done; where the next one stands. -/
def plainI (s : Mach) (o x y z : Nat) (vx vy nx : Int) : Mach × Int :=
  if o = 1 then (setR s x vy, nx) else if o = 2 then (setR s x (wideI y z), nx) else if o = 3 then (setR s x (jump (wideI y z) % 4294967296), nx)
  else if o = 4 then (setR s x (vx % 65536 + wideI y z * 65536), nx) else if o = 21 then (setR s x ((vy + near z % 4294967296) % 4294967296), nx)
  else if o = 37 then (setR s x (32 - lenI vy), nx) else if o = 38 then (setR s x (popI vy), nx) else if o = 36 then (setR s x (if z = 8 then sx8 vy else sx16 vy), nx)
  else if o = 31 then (s, if vx = 0 then toI y z nx else nx) else if o = 32 then (s, if vx = 0 then nx else toI y z nx)
  else if o = 33 then (setR s 15 nx, toI y z nx) else if o = 30 then (s, toI y z nx) else if o = 34 then (s, s.R 15) else if o = 35 then (s, vx) else (s, nx)
def PlainP (gx : Nat) (s : Mach) (o x y z : Nat) (vx vy nx : Int) (w : World) (e : Ending) (w' : World) : Prop :=
  e = .returned (.int .u32 (plainI s o x y z vx vy nx).2) ∧ w'.rowIs gx 36 17 (stV (plainI s o x y z vx vy nx).1) ∧ Chg (fun k => k = gx) w w'
theorem and65535 (b : Int) (h0 : 0 ≤ b) (h1 : b ≤ 4294967295) : bits .and .u32 b 65535 = b % 65536 := bits_mask .u32 32 (by decide) (fun n h0 h1 => by simp [IntKind.wrap, IntKind.bits, IntKind.signed]; omega) 16 (by decide) b h0 (by omega)
theorem i16_jump (d : Int) (h0 : 0 ≤ d) (h1 : d ≤ 65535) : IntKind.i16.wrap d = jump d := by
  unfold jump
  simp [IntKind.wrap, IntKind.bits, IntKind.signed]
  split <;> omega
theorem chgOne {S : Nat → Prop} {w w1 w2 : World} {r : Option Nat} (a : Chg S w w1) (o : One w1 w2 r) (h : ∀ x, r = some x → S x ∨ w.heap.size ≤ x) : Chg S w w2 :=
  ⟨o.os.trans a.os, o.tape.trans a.tape, o.output.trans a.output, Nat.le_trans a.size o.size, fun k hk hS => (o.block k (Nat.lt_of_lt_of_le hk a.size) (fun e => by
    rcases h k e with h | h
    · exact hS h
    · omega)).trans (a.block k hk hS)⟩
end Go.Proofs.Ytapcbfeifeobhaa
