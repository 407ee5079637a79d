/- Contracts of the functions of package ops and garrisonref16 that tell names. -/
import Derived.Test.YtapcbfeifeobhaaBase
namespace Go.Proofs.Ytapcbfeifeobhaa
open Go.RowKit

/-- The names of the forty instructions, the first one empty. -/
def opNames : List ByteArray := [⟨#[]⟩, ⟨#[109, 111, 118]⟩, ⟨#[108, 100, 105]⟩, ⟨#[108, 100, 115]⟩, ⟨#[108, 117, 105]⟩, ⟨#[97, 100, 100]⟩, ⟨#[115, 117, 98]⟩, ⟨#[109, 117, 108]⟩, ⟨#[100, 105, 118]⟩, ⟨#[114, 101, 109]⟩, ⟨#[100, 105, 118, 115]⟩, ⟨#[97, 110, 100]⟩, ⟨#[111, 114]⟩, ⟨#[120, 111, 114]⟩, ⟨#[115, 104, 108]⟩, ⟨#[115, 104, 114]⟩, ⟨#[115, 97, 114]⟩, ⟨#[114, 111, 116]⟩, ⟨#[115, 108, 116]⟩, ⟨#[115, 108, 117]⟩, ⟨#[101, 113, 117]⟩, ⟨#[97, 100, 100, 105]⟩, ⟨#[108, 98]⟩, ⟨#[108, 98, 115]⟩, ⟨#[108, 104]⟩, ⟨#[108, 104, 115]⟩, ⟨#[108, 119]⟩, ⟨#[115, 98]⟩, ⟨#[115, 104]⟩, ⟨#[115, 119]⟩, ⟨#[106, 109, 112]⟩, ⟨#[106, 122]⟩, ⟨#[106, 110, 122]⟩, ⟨#[99, 97, 108, 108]⟩, ⟨#[114, 101, 116]⟩, ⟨#[106, 114]⟩, ⟨#[101, 120, 116]⟩, ⟨#[99, 108, 122]⟩, ⟨#[112, 111, 112]⟩, ⟨#[115, 121, 115]⟩]
def nameVals : Array Value := (opNames.map Value.string).toArray
/-- The name of an instruction's number. -/
def opName (o : Nat) : ByteArray := opNames.getD o ByteArray.empty

theorem nameVals_size : nameVals.size = 40 := by kernel_rfl
theorem nameVals_one : nameVals.all (·.oneCell') = true := by kernel_rfl
theorem nameVals_at (o : Nat) (h : o < 40) : nameVals[o]? = some (.string (opName o)) := by
  have h' : o < opNames.length := h
  simp [nameVals, opName, h', List.getD_eq_getElem?_getD]

theorem opName_hi (o : Nat) (h : 40 ≤ o) : opName o = ByteArray.empty := by
  have h' : opNames.length ≤ o := h
  simp [opName, List.getD_eq_getElem?_getD, List.getElem?_eq_none h']

def nameZero : Array Value := Array.replicate 40 (.string ByteArray.empty)

/-- Number k is the first from 1 on whose name s is; 0: none is. -/
def IsNamed (s : ByteArray) (k : Nat) : Prop :=
  (1 ≤ k ∧ k < 40 ∧ opName k = s ∧ ∀ j, 1 ≤ j → j < k → opName j ≠ s) ∨ (k = 0 ∧ ∀ j, 1 ≤ j → j < 40 → opName j ≠ s)

def NamedPost (s : ByteArray) (w : World) (e : Ending) (w' : World) : Prop :=
  ∃ k : Nat, e = .returned (.tuple #[.int .u8 k, .bool (decide (0 < k))]) ∧ IsNamed s k ∧ Below w.heap.size w w'

theorem IsNamed.unique {s : ByteArray} {k l : Nat} (h : IsNamed s k) (h' : IsNamed s l) : k = l := by
  rcases h with ⟨a1, a2, a3, a4⟩ | ⟨a1, a2⟩ <;> rcases h' with ⟨b1, b2, b3, b4⟩ | ⟨b1, b2⟩
  · by_cases h : k < l
    · exact absurd a3 (b4 k a1 h)
    · by_cases h' : l < k
      · exact absurd b3 (a4 l b1 h')
      · omega
  · exact absurd a3 (b2 k a1 a2)
  · exact absurd b3 (a2 l b1 b2)
  · omega

set_option maxHeartbeats 400000 in
theorem refNames_any (w : World) :
    Calls Try.prog 22 #[] w fun e w' => e = .returned (.slice (some ⟨w.heap.size, 0, none⟩) 40 40) ∧ w.alloc (.cells nameVals 9) = w' := by
  go_enter Try.func22, Try.ntmps22
  go_wp2_with (refine wpList_sliceTo rfl 69 9 40 _ rfl (some 1) rfl nameVals (fun _ => by kernel_rfl) ?_)
  go_ret
  exact ⟨rfl, rfl⟩

end Go.Proofs.Ytapcbfeifeobhaa
