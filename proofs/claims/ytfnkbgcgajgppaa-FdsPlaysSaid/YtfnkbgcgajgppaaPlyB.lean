/- An open thing as data; '==' on two of it. -/
import Derived.Test.YtfnkbgcgajgppaaPlyA
set_option linter.unusedVariables false
set_option linter.unusedSimpArgs false
namespace Go.Proofs.Ytfnkbgcgajgppaa
open Go.RowKit

/-- An open thing. -/
structure OpenL where
  wh : Nat
  lab : Nat
  num : Nat
  gen : Nat
  kn : Bool
  klab : Nat
  knum : Nat
  kgen : Nat
  ob : Int
  off : Int
  r : Bool
  w : Bool
  a : Bool
  path : ByteArray
def openA (o : OpenL) : Array Value := #[.int .u8 o.wh, .int .u8 o.lab, .int .u16 o.num, .int .u16 o.gen, .bool o.kn, .int .u8 o.klab, .int .u16 o.knum, .int .u16 o.kgen, .int .i64 o.ob, .int .i64 o.off, .bool o.r, .bool o.w, .bool o.a, .string o.path]
def openN : OpenL := ⟨0, 0, 0, 0, false, 0, 0, 0, 0, 0, false, false, false, ⟨#[]⟩⟩
structure okOpen (o : OpenL) : Prop where
  wh : o.wh ≤ 255
  lab : o.lab ≤ 255
  num : o.num ≤ 65535
  gen : o.gen ≤ 65535
  klab : o.klab ≤ 255
  knum : o.knum ≤ 65535
  kgen : o.kgen ≤ 65535
  ob : (Lit.int .i64 o.ob).wf = true
  off : (Lit.int .i64 o.off).wf = true
  path : o.path.size ≤ maxLen
theorem openA_ok (o : OpenL) : okO (openA o) := ⟨rfl, List.all_eq_true.1 (by rfl)⟩
theorem openN_eq : openA openN = openZ := rfl
theorem openN_ok : okOpen openN := ⟨by decide, by decide, by decide, by decide, by decide, by decide, by decide, by decide, by decide, by show 0 ≤ _; omega⟩
def openLits (o : OpenL) : List Lit := [.int .u8 o.wh, .int .u8 o.lab, .int .u16 o.num, .int .u16 o.gen, .bool o.kn, .int .u8 o.klab, .int .u16 o.knum, .int .u16 o.kgen, .int .i64 o.ob, .int .i64 o.off, .bool o.r, .bool o.w, .bool o.a, .string o.path.data.toList]

theorem eqOpen (o : OpenL) (h : okOpen o) (w : World) :
    (Op.equalIn 10000 78 (.agg (openA o)) (.agg (openA o))).run Try.prog w = .ok true w := by
  have zO : Try.prog.cellsOf 78 = 14 := by kernel_rfl
  have zI : Try.prog.cellsOf 74 = 3 := by kernel_rfl
  have zK : Try.prog.cellsOf 76 = 4 := by kernel_rfl
  have zW : Try.prog.cellsOf 72 = 1 := by kernel_rfl
  have z8 : Try.prog.cellsOf 5 = 1 := by kernel_rfl
  have z16 : Try.prog.cellsOf 30 = 1 := by kernel_rfl
  have z64 : Try.prog.cellsOf 3 = 1 := by kernel_rfl
  have zb : Try.prog.cellsOf 4 = 1 := by kernel_rfl
  have zs : Try.prog.cellsOf 9 = 1 := by kernel_rfl
  have e8 : ∀ d (x : Nat), x ≤ 255 → Try.prog.keyLits (d + 1) 5 [.int .u8 (x : Int)] = some [.int .u8 x] := fun d x hx => by simp [Program.keyLits, Try.underlying5, u8_wf (show 0 ≤ (x : Int) ∧ (x : Int) ≤ 255 by omega)]
  have eW : ∀ d (x : Nat), x ≤ 255 → Try.prog.keyLits (d + 1) 72 [.int .u8 (x : Int)] = some [.int .u8 x] := fun d x hx => by simp [Program.keyLits, Try.underlying72, u8_wf (show 0 ≤ (x : Int) ∧ (x : Int) ≤ 255 by omega)]
  have e16 : ∀ d (x : Nat), x ≤ 65535 → Try.prog.keyLits (d + 1) 30 [.int .u16 (x : Int)] = some [.int .u16 x] := fun d x hx => by simp [Program.keyLits, Try.underlying30, u16_wf (show 0 ≤ (x : Int) ∧ (x : Int) ≤ 65535 by omega)]
  have e64 : ∀ d (x : Int), (Lit.int .i64 x).wf = true → Try.prog.keyLits (d + 1) 3 [.int .i64 x] = some [.int .i64 x] := fun d x hx => by simp [Program.keyLits, Try.underlying3, hx]
  have eb : ∀ d (x : Bool), Try.prog.keyLits (d + 1) 4 [.bool x] = some [.bool x] := fun d x => by simp [Program.keyLits, Try.underlying4]
  have es : ∀ d (x : ByteArray), x.size ≤ maxLen → Try.prog.keyLits (d + 1) 9 [.string x] = some [.string x.data.toList] := fun d x hx => by simp [Program.keyLits, Try.underlying9, hx]
  have eI : ∀ d (x y z : Nat), x ≤ 255 → y ≤ 65535 → z ≤ 65535 → Try.prog.keyLits (d + 2) 74 [.int .u8 (x : Int), .int .u16 (y : Int), .int .u16 (z : Int)] = some [.int .u8 x, .int .u16 y, .int .u16 z] := by
    intro d x y z hx hy hz
    unfold Program.keyLits
    simp [Try.underlying74, zI, z8, z16, e8 d x hx, e16 d y hy, e16 d z hz]
  have eK : ∀ d (b : Bool) (x y z : Nat), x ≤ 255 → y ≤ 65535 → z ≤ 65535 → Try.prog.keyLits (d + 3) 76 [.bool b, .int .u8 (x : Int), .int .u16 (y : Int), .int .u16 (z : Int)] = some [.bool b, .int .u8 x, .int .u16 y, .int .u16 z] := by
    intro d b x y z hx hy hz
    unfold Program.keyLits
    simp [Try.underlying76, zK, zb, zI, eb (d + 1) b, eI d x y z hx hy hz]
  have key : Try.prog.keyLits 4 78 (openA o).toList = some (openLits o) := by
    unfold Program.keyLits openA openLits
    simp [Try.underlying78, zO, zW, zI, zK, z64, zb, zs, eW 2 _ h.wh, eI 1 _ _ _ h.lab h.num h.gen, eK 0 _ _ _ _ h.klab h.knum h.kgen, e64 2 _ h.ob, e64 2 _ h.off, eb 2, es 2 _ h.path]
  have formed : (Value.agg (openA o)).formed Try.prog 78 = true := by
    simp [Value.formed, Try.underlying78, zO, openA]
  exact equal_key 4 (by omega) (by kernel_rfl) formed formed key key (by simp)
end Go.Proofs.Ytfnkbgcgajgppaa
