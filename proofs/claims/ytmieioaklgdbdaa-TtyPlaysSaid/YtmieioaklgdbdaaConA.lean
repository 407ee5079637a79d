/- Configurations: what registered labels are; small contracts of package conf. -/
import Derived.Test.YtmieioaklgdbdaaGen
import Derived.Test.YtmieioaklgdbdaaMap
import Derived.Test.YtmieioaklgdbdaaLabB
set_option linter.unusedVariables false
set_option linter.unusedSimpArgs false
namespace Go.Proofs.Ytmieioaklgdbdaa
open Go.RowKit

/-- A registered label. -/
structure RegL where
  name : ByteArray
  lab : Nat × Nat
  bl : Nat
  no : Nat
  fr : Nat
  pr : Nat
  op : Nat
  cl : Nat
def regArr (r : RegL) : Array Value := #[.string r.name, .int .u8 r.lab.1, .int .u16 r.lab.2, .int .i64 r.bl, .int .i64 r.no, .int .i64 r.fr, .int .i64 r.pr, .int .i64 r.op, .int .i64 r.cl]
def regV (r : RegL) : Value := .agg (regArr r)
/-- May it be one among so many? -/
structure okR (many : Nat) (r : RegL) : Prop where
  n1 : 1 ≤ r.name.size
  n8 : r.name.size ≤ 8
  letters : ∀ b ∈ r.name.data.toList, 97 ≤ b.toNat ∧ b.toNat ≤ 122
  lev : r.lab.1 ≤ 15
  cats : r.lab.2 < 65536
  bl1 : 4 ≤ r.bl
  bl2 : r.bl ≤ 512
  no1 : 4 ≤ r.no
  no2 : r.no ≤ 128
  even : r.no % 2 = 0
  fr1 : 1 ≤ r.fr
  fr2 : r.fr ≤ 256
  pr1 : 1 ≤ r.pr
  pr2 : r.pr ≤ 16
  op1 : 1 ≤ r.op
  op2 : r.op ≤ 32
  cl : r.cl < many
theorem okR.lab_ok {many : Nat} {r : RegL} (h : okR many r) : okL r.lab := ⟨by have := h.lev; omega, h.cats⟩

end Go.Proofs.Ytmieioaklgdbdaa
