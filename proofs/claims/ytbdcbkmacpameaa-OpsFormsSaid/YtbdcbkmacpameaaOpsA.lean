/- Contracts of the functions of package ops and garrisonref16 that tell names. -/
import Derived.Test.YtbdcbkmacpameaaBase
namespace Go.Proofs.Ytbdcbkmacpameaa
open Go.RowKit

/-- The names of the forty instructions, the first one empty. -/
def opNames : List ByteArray := [⟨#[]⟩, ⟨#[109, 111, 118]⟩, ⟨#[108, 100, 105]⟩, ⟨#[108, 100, 115]⟩, ⟨#[108, 117, 105]⟩, ⟨#[97, 100, 100]⟩, ⟨#[115, 117, 98]⟩, ⟨#[109, 117, 108]⟩, ⟨#[100, 105, 118]⟩, ⟨#[114, 101, 109]⟩, ⟨#[100, 105, 118, 115]⟩, ⟨#[97, 110, 100]⟩, ⟨#[111, 114]⟩, ⟨#[120, 111, 114]⟩, ⟨#[115, 104, 108]⟩, ⟨#[115, 104, 114]⟩, ⟨#[115, 97, 114]⟩, ⟨#[114, 111, 116]⟩, ⟨#[115, 108, 116]⟩, ⟨#[115, 108, 117]⟩, ⟨#[101, 113, 117]⟩, ⟨#[97, 100, 100, 105]⟩, ⟨#[108, 98]⟩, ⟨#[108, 98, 115]⟩, ⟨#[108, 104]⟩, ⟨#[108, 104, 115]⟩, ⟨#[108, 119]⟩, ⟨#[115, 98]⟩, ⟨#[115, 104]⟩, ⟨#[115, 119]⟩, ⟨#[106, 109, 112]⟩, ⟨#[106, 122]⟩, ⟨#[106, 110, 122]⟩, ⟨#[99, 97, 108, 108]⟩, ⟨#[114, 101, 116]⟩, ⟨#[106, 114]⟩, ⟨#[101, 120, 116]⟩, ⟨#[99, 108, 122]⟩, ⟨#[112, 111, 112]⟩, ⟨#[115, 121, 115]⟩]
def nameVals : Array Value := (opNames.map Value.string).toArray
/-- The name of an instruction's number. -/
def opName (o : Nat) : ByteArray := opNames.getD o ByteArray.empty

theorem nameVals_size : nameVals.size = 40 := by kernel_rfl
theorem nameVals_one : nameVals.all (·.oneCell') = true := by kernel_rfl
theorem nameVals_at (o : Nat) (h : o < 40) : nameVals[o]? = some (.string (opName o)) := by
  have h' : o < opNames.length := h
  simp [nameVals, opName, h', List.getD_eq_getElem?_getD]

theorem opName_hi (o : Nat) (h : 40 ≤ o) : opName o = ByteArray.empty := by
  have h' : opNames.length ≤ o := h
  simp [opName, List.getD_eq_getElem?_getD, List.getElem?_eq_none h']

def nameZero : Array Value := Array.replicate 40 (.string ByteArray.empty)

set_option maxHeartbeats 400000 in
theorem opsName_any (o : Int) (h0 : 0 ≤ o) (h1 : o ≤ 255) (w : World) :
    Calls Try.prog 18 #[.int .u8 o] w fun e w' => e = .returned (.string (opName o.toNat)) ∧ Below w.heap.size w w' := by
  have hn : o < 40 → nameVals[o.toNat]? = some (.string (opName o.toNat)) := fun h => nameVals_at _ (by omega)
  go_enter Try.func18, Try.ntmps18
  go_wp2_with (first
    | (refine wpList_buildTo rfl 102 _ rfl (some 4) rfl nameVals (by kernel_rfl) ?_)
    | (refine wpList_allocTo rfl 102 rfl (some 3) rfl (.agg nameZero) (by kernel_rfl) ?_)
    | (refine wpList_store_rowTo rfl 102 (.tmp 3) (.tmp 4) rfl rfl w.heap.size nameVals rfl rfl 102 nameZero (heap_alloc_last w _) (by kernel_rfl) (by kernel_rfl) (by kernel_rfl) ?_; rw [World.setRow_alloc_new]))
  · go_ret
    exact ⟨by rw [show opName o.toNat = ByteArray.empty from opName_hi _ (by omega)]; rfl, (Below.refl _ _).alloc (Nat.le_refl _) _⟩
  · go_ret
    exact ⟨rfl, (Below.refl _ _).alloc (Nat.le_refl _) _⟩

/-- Number k is the first from 1 on whose name s is; 0: none is. -/
def IsNamed (s : ByteArray) (k : Nat) : Prop :=
  (1 ≤ k ∧ k < 40 ∧ opName k = s ∧ ∀ j, 1 ≤ j → j < k → opName j ≠ s) ∨ (k = 0 ∧ ∀ j, 1 ≤ j → j < 40 → opName j ≠ s)

def NamedPost (s : ByteArray) (w : World) (e : Ending) (w' : World) : Prop :=
  ∃ k : Nat, e = .returned (.tuple #[.int .u8 k, .bool (decide (0 < k))]) ∧ IsNamed s k ∧ Below w.heap.size w w'

set_option maxHeartbeats 400000 in
theorem opsNamed_any (s : ByteArray) (w : World) :
    Calls Try.prog 16 #[.string s] w (NamedPost s w) := by
  go_enter Try.func16, Try.ntmps16
  go_wp2
  go_loopw [4] (fun i wr => ∃ k : Nat, 1 ≤ k ∧ k ≤ 40 ∧ i = .int .u8 k ∧ (∀ j, 1 ≤ j → j < k → opName j ≠ s) ∧ Below w.heap.size w wr) (fun i _ => 40 - (intOf i).toNat)
  case atStart => exact ⟨1, by omega, by omega, rfl, fun j h1 h2 => by omega, Below.refl _ _⟩
  case round =>
    obtain ⟨k, hk1, hk2, rfl, hno, hb⟩ := hrel
    go_wp2_with (go_at_call 18; refine (opsName_any _ (by omega) (by omega) _).mono ?_; rintro e w1 ⟨rfl, hb1⟩)
    · rename_i hx
      refine bodyPost_ret (results_tmp2 rfl _ _ _) rfl ⟨k, ?_, .inl ⟨hk1, by omega, bytes_eq (by simpa using hx), hno⟩, hb.trans (hb1.mono hb.size)⟩
      simp
      omega
    · refine ⟨⟨k + 1, by omega, by omega, by go_num, fun j h1 h2 => ?_, hb.trans (hb1.mono hb.size)⟩, by simp [intOf]; omega⟩
      by_cases h : j = k
      · subst h
        intro hs
        rename_i hx
        rw [hs] at hx
        simp at hx
      · exact hno j h1 (by omega)
    · refine bodyPost_ret (results_tmp2 rfl _ _ _) rfl ⟨0, ?_, .inr ⟨rfl, fun j h1 h2 => hno j h1 (by omega)⟩, hb⟩
      simp

theorem IsNamed.unique {s : ByteArray} {k l : Nat} (h : IsNamed s k) (h' : IsNamed s l) : k = l := by
  rcases h with ⟨a1, a2, a3, a4⟩ | ⟨a1, a2⟩ <;> rcases h' with ⟨b1, b2, b3, b4⟩ | ⟨b1, b2⟩
  · by_cases h : k < l
    · exact absurd a3 (b4 k a1 h)
    · by_cases h' : l < k
      · exact absurd b3 (a4 l b1 h')
      · omega
  · exact absurd a3 (b2 k a1 a2)
  · exact absurd b3 (a2 l b1 b2)
  · omega

set_option maxHeartbeats 400000 in
theorem refNames_any (w : World) :
    Calls Try.prog 49 #[] w fun e w' => e = .returned (.slice (some ⟨w.heap.size, 0, none⟩) 40 40) ∧ w.alloc (.cells nameVals 9) = w' := by
  go_enter Try.func49, Try.ntmps49
  go_wp2_with (refine wpList_sliceTo rfl 73 9 40 _ rfl (some 1) rfl nameVals (fun _ => by kernel_rfl) ?_)
  go_ret
  exact ⟨rfl, rfl⟩

set_option maxHeartbeats 400000 in
theorem refNamed_any (s : ByteArray) (w : World) :
    Calls Try.prog 17 #[.string s] w fun e w' => ∃ k : Nat, e = .returned (.int .i64 k) ∧ IsNamed s k ∧ Below w.heap.size w w' := by
  go_enter Try.func17, Try.ntmps17
  go_wp2_with (go_at_call 49; refine (refNames_any _).mono ?_; rintro e w1 ⟨rfl, rfl⟩)
  go_loop [4] (fun i => ∃ k : Nat, 1 ≤ k ∧ k ≤ 40 ∧ i = .int .i64 k ∧ (∀ j, 1 ≤ j → j < k → opName j ≠ s)) (fun i => 40 - (intOf i).toNat)
  case atStart => exact ⟨1, by omega, by omega, rfl, fun j h1 h2 => by omega⟩
  case round =>
    obtain ⟨k, hk1, hk2, rfl, hno⟩ := hrel
    have hb : Below w.heap.size w (w.alloc (.cells nameVals 9)) := (Below.refl _ _).alloc (Nat.le_refl _) _
    by_cases hlt : k < 40
    · have hn : nameVals[k]? = some (.string (opName k)) := nameVals_at _ (by omega)
      go_wp2
      · go_ret
        have hx : ((opName k).toList == s.toList) = true := by assumption
        exact ⟨k, rfl, .inl ⟨hk1, hlt, bytes_eq (by simpa using hx), hno⟩, hb⟩
      · go_round
        case rel => 
          refine ⟨k + 1, by omega, by omega, by go_num, fun j h1 h2 => ?_⟩
          by_cases h : j = k
          · subst h
            intro hs
            have hx : ((opName j).toList == s.toList) = false := by assumption
            rw [hs] at hx
            simp at hx
          · exact hno j h1 (by omega)
        case measure => simp [intOf]; omega
    · go_wp2
      go_ret
      exact ⟨0, rfl, .inr ⟨rfl, fun j h1 h2 => hno j h1 (by omega)⟩, hb⟩
end Go.Proofs.Ytbdcbkmacpameaa
