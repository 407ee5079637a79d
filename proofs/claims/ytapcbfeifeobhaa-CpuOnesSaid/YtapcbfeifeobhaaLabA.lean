/- Labels: the plain law of levels and categories; slices of labels. -/
import Derived.Test.YtapcbfeifeobhaaSl
import Derived.Lib.TrailingZeros
set_option linter.unusedVariables false
set_option linter.unusedSimpArgs false
namespace Go.Proofs.Ytapcbfeifeobhaa
open Go.RowKit

/-! ### Bits -/

theorem bit_split (x c : Nat) (h : x.testBit c = false) : x = 2 ^ (c + 1) * (x / 2 ^ (c + 1)) + x % 2 ^ c := by
  have h1 := Nat.div_add_mod x (2 ^ (c + 1))
  have h2 : x / 2 ^ c % 2 = 0 := by
    rw [Nat.testBit_eq_decide_div_mod_eq, decide_eq_false_iff_not] at h
    omega
  rw [Nat.mod_pow_succ, h2] at h1
  simpa using h1.symm

theorem bit_add (x c j : Nat) (h : x.testBit c = false) : (x + 2 ^ c).testBit j = (decide (j = c) || x.testBit j) := by
  have hs := bit_split x c h
  obtain ⟨q, hq⟩ : ∃ q, q = x / 2 ^ (c + 1) := ⟨_, rfl⟩
  obtain ⟨r, hr⟩ : ∃ r, r = x % 2 ^ c := ⟨_, rfl⟩
  have hr2 : r < 2 ^ c := hr ▸ Nat.mod_lt _ (Nat.two_pow_pos c)
  rw [← hq, ← hr] at hs
  have hp : 2 ^ (c + 1) = 2 ^ c + 2 ^ c := by rw [Nat.pow_succ]; omega
  rw [hs, Nat.add_assoc, Nat.add_comm r, Nat.testBit_two_pow_mul_add _ (by omega), Nat.testBit_two_pow_mul_add _ (by omega)]
  by_cases hj : j < c + 1
  · rw [if_pos hj, if_pos hj]
    by_cases hjc : j = c
    · subst hjc
      rw [Nat.testBit_two_pow_add_eq, Nat.testBit_lt_two_pow hr2]
      simp
    · rw [Nat.testBit_two_pow_add_gt (by omega)]
      simp [hjc]
  · rw [if_neg hj, if_neg hj]
    have : j ≠ c := by omega
    simp [this]

theorem bit_sub (x c j : Nat) (h : x.testBit c = true) : 2 ^ c ≤ x ∧ (x - 2 ^ c).testBit j = (!decide (j = c) && x.testBit j) := by
  have hle : 2 ^ c ≤ x := Nat.ge_two_pow_of_testBit h
  have h0 : (x - 2 ^ c).testBit c = false := by
    have e := Nat.testBit_two_pow_add_eq (x - 2 ^ c) c
    rw [show 2 ^ c + (x - 2 ^ c) = x by omega, h] at e
    cases hb : (x - 2 ^ c).testBit c with
    | false => rfl
    | true => rw [hb] at e; cases e
  have e := bit_add (x - 2 ^ c) c j h0
  rw [show x - 2 ^ c + 2 ^ c = x by omega] at e
  refine ⟨hle, ?_⟩
  rw [e]
  by_cases hj : j = c
  · subst hj; simp [h0]
  · simp [hj]

theorem bit_high {x j : Nat} (hx : x < 65536) (hj : 16 ≤ j) : x.testBit j = false :=
  Nat.testBit_lt_two_pow (Nat.lt_of_lt_of_le hx (Nat.pow_le_pow_right (by omega) hj : 2 ^ 16 ≤ 2 ^ j))

theorem bits_eq {x y : Nat} (hx : x < 65536) (hy : y < 65536) (h : ∀ j, j < 16 → x.testBit j = y.testBit j) : x = y := by
  apply Nat.eq_of_testBit_eq
  intro j
  by_cases hj : j < 16
  · exact h j hj
  · rw [bit_high hx (by omega), bit_high hy (by omega)]

/-- The categories of one are among those of the other. -/
def subC (a b : Nat) : Bool := (List.range 16).all fun j => !a.testBit j || b.testBit j
theorem subC_iff (a b : Nat) : subC a b = true ↔ ∀ j, j < 16 → a.testBit j = true → b.testBit j = true := by
  unfold subC
  rw [List.all_eq_true]
  constructor
  · intro h j hj ha
    have := h j (by simpa using hj)
    rw [ha] at this
    simpa using this
  · intro h j hj
    have := h j (by simpa using hj)
    cases ha : a.testBit j
    · rfl
    · simp [this ha]

/-- Is one label at or below the other? -/
def leqL (a b : Nat × Nat) : Bool := decide (a.1 ≤ b.1) && subC a.2 b.2
def joinL (a b : Nat × Nat) : Nat × Nat := (max a.1 b.1, a.2 ||| b.2)
def meetL (a b : Nat × Nat) : Nat × Nat := (min a.1 b.1, a.2 &&& b.2)
def okL (a : Nat × Nat) : Prop := a.1 ≤ 255 ∧ a.2 < 65536
theorem joinL_ok {a b : Nat × Nat} (ha : okL a) (hb : okL b) : okL (joinL a b) :=
  ⟨Nat.max_le.2 ⟨ha.1, hb.1⟩, Nat.or_lt_two_pow (n := 16) ha.2 hb.2⟩
theorem meetL_ok {a b : Nat × Nat} (ha : okL a) : okL (meetL a b) :=
  ⟨Nat.le_trans (Nat.min_le_left _ _) ha.1, by show a.2 &&& b.2 < 65536; exact Nat.lt_of_le_of_lt Nat.and_le_left ha.2⟩
/-- The categories, rising. -/
def catsL (c : Nat) : List Nat := (List.range 16).filter fun j => c.testBit j

/-! ### Slices of labels -/

def labCells (p : Nat × Nat) : List Value := [.int .u8 p.1, .int .u16 p.2]
def labV (p : Nat × Nat) : Value := .agg #[.int .u8 p.1, .int .u16 p.2]

structure LS (w : World) (v : Value) (ls : List (Nat × Nat)) : Prop where
  sr : SR w v ls.length 2 (ls.flatMap labCells)
  wf : ∀ p ∈ ls, okL p

theorem labCells_get : ∀ (ls : List (Nat × Nat)) (i : Nat) (hi : i < ls.length), (ls.flatMap labCells)[i * 2]? = some (.int .u8 (ls[i].1 : Nat)) ∧ (ls.flatMap labCells)[i * 2 + 1]? = some (.int .u16 (ls[i].2 : Nat))
  | p :: ls, 0, _ => by simp [labCells]
  | p :: ls, i + 1, hi => by
    have := labCells_get ls i (by simpa using hi)
    simpa [labCells, Nat.add_mul] using this

theorem LS.keep {w w' : World} {v : Value} {ls : List (Nat × Nat)} (h : LS w v ls) (hb : Below w.heap.size w w') : LS w' v ls := ⟨h.sr.keep hb, h.wf⟩
theorem LS.drew {w : World} {v : Value} {ls : List (Nat × Nat)} (h : LS w v ls) (k : Nat) : LS (w.drewN k) v ls := ⟨h.sr.drewN k, h.wf⟩

theorem LS.cases {w : World} {v : Value} {ls : List (Nat × Nat)} (h : LS w v ls) : (ls = [] ∧ (v = .slice none 0 0 ∨ ∃ a cap, v = .slice (some a) 0 cap ∧ cap ≤ maxLen)) ∨
    (0 < ls.length ∧ ∃ g off cap, v = .slice (some ⟨g, off, none⟩) ls.length cap ∧ ls.length ≤ cap ∧ cap ≤ maxLen ∧ g < w.heap.size ∧
      ∀ i (hi : i < ls.length), w.cell? ⟨g, off + i * 2, none⟩ = some (.int .u8 (ls[i].1 : Nat)) ∧ w.cell? ⟨g, off + i * 2 + 1, none⟩ = some (.int .u16 (ls[i].2 : Nat))) := by
  rcases h.sr.cases with ⟨h1, h2, h3⟩ | ⟨hn, g, off, cap, h1, h2, h3, h4, h5⟩
  · exact .inl ⟨List.eq_nil_of_length_eq_zero h1, h3⟩
  · refine .inr ⟨hn, g, off, cap, h1, h2, h3, h4, fun i hi => ?_⟩
    have e := labCells_get ls i hi
    exact ⟨(h5 (i * 2) (by omega)).trans e.1, (h5 (i * 2 + 1) (by omega)).trans e.2⟩

theorem LS.of_arg {W : World} {t e : TypeId} {v : Value} (hu : Try.prog.underlying t = some (.slice e)) (hs : Try.prog.cellsOf e = 2) (hk : cellKinds Try.prog 3 e = some [⟨0, .u8, 0⟩, ⟨0, .u16, 0⟩]) (h : Arg Try.prog W t v) : ∃ ls, LS W v ls := by
  obtain ⟨n, xs, hr, ho⟩ := SR.of_arg hu (by omega) h
  rw [hs] at hr ho
  have hl : xs.length = n * 2 := by simpa using hr.1
  have each : ∀ (n : Nat) (xs : List Value), xs.length = n * 2 → (∀ i, i < n → ∃ m, Okay Try.prog W m e ((xs.drop (i * 2)).take 2)) → ∃ ls : List (Nat × Nat), ls.length = n ∧ xs = ls.flatMap labCells ∧ ∀ p ∈ ls, okL p := by
    intro n
    induction n with
    | zero => intro xs hl _; exact ⟨[], rfl, List.eq_nil_of_length_eq_zero (by omega), fun z hz => by cases hz⟩
    | succ n ih =>
      intro xs hl ho
      obtain ⟨m, h0⟩ := ho 0 (by omega)
      have hf := Okay.fits 3 e m _ _ h0 hk
      match xs, hl with
      | x :: y :: xs, hl =>
        simp only [Nat.zero_mul, List.drop_zero, List.take_succ_cons, List.take_zero] at hf
        obtain ⟨⟨z0, hz0, w0⟩, ⟨z1, hz1, w1⟩, _⟩ := hf
        obtain ⟨ls, e0, e1, e2⟩ := ih xs (by simp at hl; omega) (fun i hi => by
          have := ho (i + 1) (by omega)
          rw [show (i + 1) * 2 = i * 2 + 2 by omega] at this
          simpa using this)
        have r0 := wf_u8 w0
        have r1 := wf_u16 w1
        refine ⟨(z0.toNat, z1.toNat) :: ls, by simp [e0], ?_, fun p hp => ?_⟩
        · rw [e1, List.flatMap_cons]
          have a0 : ((z0.toNat : Nat) : Int) = z0 := by omega
          have a1 : ((z1.toNat : Nat) : Int) = z1 := by omega
          show x :: y :: _ = [Value.int .u8 ((z0.toNat : Nat) : Int), Value.int .u16 ((z1.toNat : Nat) : Int)] ++ _
          rw [a0, a1, hz0, hz1]
          rfl
        · rcases List.mem_cons.1 hp with rfl | hp
          · exact ⟨by show z0.toNat ≤ 255; omega, by show z1.toNat < 65536; omega⟩
          · exact e2 p hp
  obtain ⟨ls, e0, e1, e2⟩ := each n xs hl ho
  subst e0
  rw [e1] at hr
  exact ⟨ls, hr, e2⟩

/-- A label that came in. -/
theorem lab_of_arg {W : World} {t : TypeId} {v : Value} (hu : ∃ fs, Try.prog.underlying t = some (.struct fs)) (hk : cellKinds Try.prog 3 t = some [⟨0, .u8, 0⟩, ⟨0, .u16, 0⟩]) (h : Arg Try.prog W t v) : ∃ p, v = labV p ∧ okL p := by
  obtain ⟨cs, rfl, hf⟩ := Arg.flat (.inl hu) 3 hk h
  obtain ⟨x, us, e1, ⟨z0, hz0, w0⟩, hf⟩ := hf.cons
  obtain ⟨y, us, e2, ⟨z1, hz1, w1⟩, hf⟩ := hf.cons
  have e3 := hf.nil
  subst e3 e2
  have r0 := wf_u8 w0
  have r1 := wf_u16 w1
  refine ⟨(z0.toNat, z1.toNat), ?_, by show z0.toNat ≤ 255; omega, by show z1.toNat < 65536; omega⟩
  have a0 : ((z0.toNat : Nat) : Int) = z0 := by omega
  have a1 : ((z1.toNat : Nat) : Int) = z1 := by omega
  show Value.agg cs.toArray = .agg #[Value.int .u8 ((z0.toNat : Nat) : Int), Value.int .u16 ((z1.toNat : Nat) : Int)]
  rw [a0, a1, ← hz0, ← hz1, ← e1]
end Go.Proofs.Ytapcbfeifeobhaa
