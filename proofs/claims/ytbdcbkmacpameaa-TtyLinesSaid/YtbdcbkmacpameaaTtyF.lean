/- The law TtyLines: plain facts on lines. -/
import Derived.Test.YtbdcbkmacpameaaTtyE
set_option linter.unusedVariables false
set_option linter.unusedSimpArgs false
namespace Go.Proofs.Ytbdcbkmacpameaa
open Go.RowKit

def ttyLen (zs : List Int) (j : Nat) : Nat := (zs.getD j 0 % 30).toNat
def ttyLine (zs : List Int) (j : Nat) : List Int := List.replicate (ttyLen zs j) (97 + (j : Int) % 26) ++ [10]
/-- The lines from number i on, one behind the other, up to number k. -/
def ttyCat (zs : List Int) (i k : Nat) : List Int := ((List.range' i (k - i)).map (ttyLine zs)).flatten

theorem ttyLine_length (zs : List Int) (j : Nat) : (ttyLine zs j).length = ttyLen zs j + 1 := by simp [ttyLine]

theorem ttyCat_snoc (zs : List Int) (k : Nat) : ttyCat zs 0 (k + 1) = ttyCat zs 0 k ++ ttyLine zs k := by
  unfold ttyCat
  rw [Nat.sub_zero, Nat.sub_zero, List.range'_concat]
  simp

theorem ttyCat_cons (zs : List Int) {j k : Nat} (h : j < k) : ttyCat zs j k = ttyLine zs j ++ ttyCat zs (j + 1) k := by
  unfold ttyCat
  rw [show k - j = (k - (j + 1)) + 1 by omega, List.range'_succ]
  simp

theorem ttyCat_self (zs : List Int) (k : Nat) : ttyCat zs k k = [] := by simp [ttyCat]

theorem ttyFirst_line (zs : List Int) (j : Nat) (R : List Int) (h : (ttyLine zs j ++ R).length ≤ 128) : ttyFirst 200 (ttyLine zs j ++ R) = some (ttyLen zs j) := by
  have hl := ttyLine_length zs j
  unfold ttyFirst
  rw [List.find?_range_eq_some]
  rw [List.length_append] at h
  refine ⟨?_, ?_, ?_⟩
  · exact decide_eq_true (show ttyStop 200 (ttyLine zs j ++ R) (ttyLen zs j) from Or.inl (by simp [ttyLine]))
  · rw [List.mem_range, List.length_append]; omega
  · intro i hi
    have hns : ¬ ttyStop 200 (ttyLine zs j ++ R) i := ?_
    · rw [decide_eq_false hns]; rfl
    unfold ttyStop
    simp only [not_or]
    refine ⟨?_, by omega, by omega⟩
    simp only [ttyLine, List.append_assoc, List.getD_eq_getElem?_getD]
    rw [List.getElem?_append_left (by simpa using hi), List.getElem?_replicate]
    simp only [hi, if_true, Option.getD_some]
    omega

theorem ttyOut_line (zs : List Int) (j : Nat) (R : List Int) (h : (ttyLine zs j ++ R).length ≤ 128) : ttyOut 200 (ttyLine zs j ++ R) = ttyLine zs j ∧ ttyRest 200 (ttyLine zs j ++ R) = R ∧ ttyCode 200 (ttyLine zs j ++ R) = 0 := by
  unfold ttyOut ttyRest ttyCode
  rw [ttyFirst_line zs j R h]
  have hl := ttyLine_length zs j
  refine ⟨?_, ?_, rfl⟩
  · simp only [if_neg (show (200 : Int) ≠ 0 by omega)]
    rw [← hl, List.take_left]
  · simp only [if_neg (show (200 : Int) ≠ 0 by omega)]
    rw [← hl, List.drop_left]

theorem SI.of_rowIs {w : World} {g n : Nat} {f : Nat → Value} {zs : List Int} {t : TypeId} {cap : Nat} (h : w.rowIs g t n f) (hn : zs.length = n) (hf : ∀ i, i < n → f i = .int .u8 (zs.getD i 0)) (hc : n ≤ cap) (hm : cap ≤ maxLen) (hw : ∀ z ∈ zs, 0 ≤ z ∧ z ≤ 255) : SI w .u8 (.slice (some ⟨g, 0, none⟩) n cap) zs := by
  subst hn
  refine ⟨⟨by simp, .inr ⟨_, cap, rfl, hc, hm, fun h0 => ⟨rfl, h.lt, fun i hi => ?_⟩⟩⟩, fun z hz => u8_wf (hw z hz)⟩
  show w.cell? ⟨g, 0 + i, none⟩ = _
  have hi' : i < zs.length := by simpa using hi
  rw [Nat.zero_add, h.cell hi', hf i hi']
  simp [List.getD_eq_getElem?_getD, List.getElem?_eq_getElem hi']

theorem ttyLine_getD (zs : List Int) (j i : Nat) (hi : i < ttyLen zs j + 1) : (ttyLine zs j).getD i 0 = if i = ttyLen zs j then 10 else 97 + (j : Int) % 26 := by
  unfold ttyLine
  rw [List.getD_eq_getElem?_getD]
  by_cases h : i = ttyLen zs j
  · rw [if_pos h, h]; simp
  · rw [if_neg h, List.getElem?_append_left (by simp; omega), List.getElem?_replicate, if_pos (by omega)]
    rfl

theorem ttyLine_byte (zs : List Int) (j : Nat) : ∀ z ∈ ttyLine zs j, 0 ≤ z ∧ z ≤ 255 := by
  intro z hz
  simp only [ttyLine, List.mem_append, List.mem_replicate, List.mem_singleton] at hz
  rcases hz with ⟨_, rfl⟩ | rfl <;> omega
end Go.Proofs.Ytbdcbkmacpameaa
