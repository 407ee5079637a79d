/- The machine as a function: how a run goes; runs in pieces; runs that end in a fault. -/
import Derived.Test.YtapcbfeifeobhaaBase
set_option linter.unusedVariables false
set_option linter.unusedSimpArgs false
namespace Go.Proofs.Ytapcbfeifeobhaa

/-- Registers, where the next instruction stands, memory. -/
structure Mach where
  R : Nat → Int
  at_ : Int
  mem : Nat → Nat
/-- What an instruction comes to. -/
inductive Out where
  | go
  | ask (n : Nat)
  | flt (e : Nat)
/-- A run: so many at most; d were done. Why it ended, its number, how many were done. -/
def runM (st : Mach → Mach × Out) : Nat → Nat → Mach → Mach × (Nat × Nat × Nat)
  | 0, d, s => (s, 0, 0, d)
  | b + 1, d, s => match st s with
    | (s', .go) => runM st b (d + 1) s'
    | (s', .ask n) => (s', 1, n, d + 1)
    | (s', .flt e) => (s', 2, e, d)
section
variable {st : Mach → Mach × Out}
theorem run_go {s s' : Mach} (h : st s = (s', .go)) (b d : Nat) : runM st (b + 1) d s = runM st b (d + 1) s' := by
  show (match st s with | (s', .go) => runM st b (d + 1) s' | (s', .ask n) => (s', 1, n, d + 1) | (s', .flt e) => (s', 2, e, d)) = _
  rw [h]
theorem run_ask {s s' : Mach} {n : Nat} (h : st s = (s', .ask n)) (b d : Nat) : runM st (b + 1) d s = (s', 1, n, d + 1) := by
  show (match st s with | (s', .go) => runM st b (d + 1) s' | (s', .ask n) => (s', 1, n, d + 1) | (s', .flt e) => (s', 2, e, d)) = _
  rw [h]
theorem run_flt {s s' : Mach} {e : Nat} (h : st s = (s', .flt e)) (b d : Nat) : runM st (b + 1) d s = (s', 2, e, d) := by
  show (match st s with | (s', .go) => runM st b (d + 1) s' | (s', .ask n) => (s', 1, n, d + 1) | (s', .flt e) => (s', 2, e, d)) = _
  rw [h]
/-- The three ways to end. -/
theorem run_ways (b : Nat) : ∀ d s, (∃ s', runM st b d s = (s', 0, 0, d + b)) ∨ (∃ s' n d' q, runM st b d s = (s', 1, n, d') ∧ d + 1 ≤ d' ∧ d' ≤ d + b ∧ st q = (s', .ask n)) ∨ (∃ s' e d' q, runM st b d s = (s', 2, e, d') ∧ d ≤ d' ∧ d' < d + b ∧ st q = (s', .flt e)) := by
  induction b with
  | zero => exact fun d s => .inl ⟨s, rfl⟩
  | succ b ih =>
    intro d s
    obtain ⟨s', o, hs⟩ : ∃ s' o, st s = (s', o) := ⟨_, _, rfl⟩
    cases o with
    | go =>
      rw [run_go hs]
      rcases ih (d + 1) s' with ⟨q, h⟩ | ⟨q, n, d', p, h, h1, h2, h3⟩ | ⟨q, e, d', p, h, h1, h2, h3⟩
      · exact .inl ⟨q, by rw [h, show d + 1 + b = d + (b + 1) by omega]⟩
      · exact .inr (.inl ⟨q, n, d', p, h, by omega, by omega, h3⟩)
      · exact .inr (.inr ⟨q, e, d', p, h, by omega, by omega, h3⟩)
    | ask n =>
      rw [run_ask hs]
      exact .inr (.inl ⟨s', n, d + 1, s, rfl, by omega, by omega, hs⟩)
    | flt e =>
      rw [run_flt hs]
      exact .inr (.inr ⟨s', e, d, s, rfl, by omega, by omega, hs⟩)
/-- A run that is over may go on. -/
theorem run_over (a : Nat) : ∀ b d s s' n d', runM st a d s = (s', 0, n, d') → runM st (a + b) d s = runM st b d' s' := by
  induction a with
  | zero =>
    intro b d s s' n d' h
    injection h with h1 h2
    injection h2 with _ h3
    injection h3 with _ h4
    subst h1 h4
    rw [Nat.zero_add]
  | succ a ih =>
    intro b d s s' n d' h
    rw [Nat.add_right_comm]
    obtain ⟨q, o, hs⟩ : ∃ s' o, st s = (s', o) := ⟨_, _, rfl⟩
    cases o with
    | go =>
      rw [run_go hs] at h ⊢
      exact ih b _ _ _ _ _ h
    | ask m =>
      rw [run_ask hs] at h
      injection h with _ h
      injection h with h _
      omega
    | flt m =>
      rw [run_flt hs] at h
      injection h with _ h
      injection h with h _
      omega
/-- One that is not, stays as it ended. -/
theorem run_ended (a : Nat) : ∀ b d s s' y n d', y ≠ 0 → runM st a d s = (s', y, n, d') → runM st (a + b) d s = (s', y, n, d') := by
  induction a with
  | zero =>
    intro b d s s' y n d' hy h
    injection h with _ h
    injection h with h _
    exact absurd h.symm hy
  | succ a ih =>
    intro b d s s' y n d' hy h
    rw [Nat.add_right_comm]
    obtain ⟨q, o, hs⟩ : ∃ s' o, st s = (s', o) := ⟨_, _, rfl⟩
    cases o with
    | go =>
      rw [run_go hs] at h ⊢
      exact ih b _ _ _ _ _ _ hy h
    | ask m =>
      rw [run_ask hs] at h ⊢
      exact h
    | flt m =>
      rw [run_flt hs] at h ⊢
      exact h
/-- How many were done before does not matter. -/
theorem run_shift (a : Nat) : ∀ d k s s' y n d', runM st a d s = (s', y, n, d') → runM st a (d + k) s = (s', y, n, d' + k) := by
  induction a with
  | zero =>
    intro d k s s' y n d' h
    injection h with h1 h2
    injection h2 with h2 h3
    injection h3 with h3 h4
    subst h1 h2 h3 h4
    rfl
  | succ a ih =>
    intro d k s s' y n d' h
    obtain ⟨q, o, hs⟩ : ∃ s' o, st s = (s', o) := ⟨_, _, rfl⟩
    cases o with
    | go =>
      rw [run_go hs] at h ⊢
      rw [Nat.add_right_comm]
      exact ih _ k _ _ _ _ _ h
    | ask m =>
      rw [run_ask hs] at h ⊢
      injection h with h1 h2
      injection h2 with h2 h3
      injection h3 with h3 h4
      subst h1 h2 h3 h4
      rw [Nat.add_right_comm]
    | flt m =>
      rw [run_flt hs] at h ⊢
      injection h with h1 h2
      injection h2 with h2 h3
      injection h3 with h3 h4
      subst h1 h2 h3 h4
      rfl
end
end Go.Proofs.Ytapcbfeifeobhaa
