/- The plain law of a disk that stops in a commit, or while it begins anew. -/
import Derived.Test.YtonfnlohbgbffaaWpq
import Derived.Test.YtonfnlohbgbffaaWalM
set_option linter.unusedVariables false
set_option linter.unusedSimpArgs false
namespace Go.Proofs.Ytonfnlohbgbffaa
open Go.RowKit

/-! ### A head that is read back -/
theorem num2_head (L : List Nat) (k : Nat) (hk : k < L.length) (h : L.getD k 0 ≤ 65535) : num2 (logB L) (4 + 2 * k) = L.getD k 0 := by
  have e1 : (4 + 2 * k - 4) / 2 = k := by omega
  have e2 : (4 + 2 * k + 1 - 4) / 2 = k := by omega
  have h1 : logB L (4 + 2 * k) = L.getD k 0 % 256 := by
    unfold logB headTo
    rw [if_neg (by omega), if_neg (by omega), if_neg (by omega), if_neg (by omega), e1, if_pos hk, if_pos (by omega)]
  have h2 : logB L (4 + 2 * k + 1) = L.getD k 0 / 256 % 256 := by
    unfold logB headTo
    rw [if_neg (by omega), if_neg (by omega), if_neg (by omega), if_neg (by omega), e2, if_pos hk, if_neg (by omega)]
  unfold num2
  rw [h1, h2]
  omega
theorem toL_head (L : List Nat) (h : ∀ k ∈ L, k ≤ 65535) : toL (logB L) L.length = L := by
  apply List.ext_getElem (toL_len _ _)
  intro i h1 h2
  have h3 := num2_head L i h2 (by rw [List.getD_eq_getElem?_getD, List.getElem?_eq_getElem h2]; exact h _ (List.getElem_mem h2))
  have h4 : (toL (logB L) L.length)[i]? = some (num2 (logB L) (4 + 2 * i)) := by
    unfold toL
    rw [List.getElem?_map, List.getElem?_range h2]
    rfl
  rw [List.getElem?_eq_getElem h1] at h4
  rw [Option.some.inj h4, h3, List.getD_eq_getElem?_getD, List.getElem?_eq_getElem h2]
  rfl
theorem places_head (L : List Nat) (n first : Nat) (hl : L.length ≤ 30) (h : ∀ k ∈ L, k < n ∧ (k < first ∨ first + 30 < k)) (hn : n ≤ 65536) : places (logB L) n first = some L := by
  have h0 : num2 (logB L) 0 = 26529 := show 161 + 256 * 103 = 26529 by decide
  have h2 : num2 (logB L) 2 = L.length := by
    show L.length % 256 + 256 * (L.length / 256 % 256) = _
    omega
  have ht := toL_head L (fun k hk => by have := (h k hk).1; omega)
  unfold places
  rw [h0, h2, if_neg (by omega), ht, if_pos]
  rw [List.all_eq_true]
  intro k hk
  have := h k hk
  unfold okTo
  simp
  omega
theorem put_D (s : DSt) (k : Nat) (f : Nat → Nat) : (s.put k f).D = if s.up = true then setBlk s.D k f else s.D := by
  unfold DSt.put
  split <;> rfl

/-! ### Where a disk may stop -/
/-- The log's head and the blocks outside the log. -/
def OldP (first : Nat) (D0 D : Nat → Nat → Nat) : Prop := D first = logB [] ∧ ∀ j, j < first ∨ first + 30 < j → D j = D0 j
def newD (G : Nat → Nat → Nat) (L : List Nat) (D0 : Nat → Nat → Nat) (j : Nat) : Nat → Nat := if j ∈ L then G j else D0 j
/-- The log is written, and says so. -/
def MidP (first : Nat) (G : Nat → Nat → Nat) (L : List Nat) (D0 D : Nat → Nat → Nat) : Prop :=
  D first = logB L ∧ (∀ i, i < L.length → D (first + 1 + i) = G (L.getD i 0)) ∧ ∀ j, j < first ∨ first + 30 < j → j ∉ L → D j = D0 j
/-- What a log may hold. -/
structure OkL (first n : Nat) (L : List Nat) : Prop where
  nodup : L.Nodup
  out : ∀ k ∈ L, k < n ∧ (k < first ∨ first + 30 < k)
  len : L.length ≤ 30
  n : n ≤ 65536
section
variable {first n : Nat} {G D0 : Nat → Nat → Nat} {L : List Nat}
theorem inst_stop (hL : OkL first n L) : ∀ (M : List Nat) (i : Nat) (s : DSt), L.drop i = M → i ≤ L.length → MidP first G L D0 s.D → (∀ a, a < i → s.D (L.getD a 0) = G (L.getD a 0)) →
    MidP first G L D0 (inst first M i s).1.D ∧ ((inst first M i s).2 = 0 → ∀ a, a < L.length → (inst first M i s).1.D (L.getD a 0) = G (L.getD a 0)) ∧ (Alive s → (inst first M i s).2 = 0 ∧ Alive (inst first M i s).1)
  | [], i, s, hd, hi, hm, ha => by
    have hi2 : i = L.length := by
      have := congrArg List.length hd
      simp at this
      omega
    subst hi2
    exact ⟨hm, fun _ => ha, fun h => ⟨rfl, h⟩⟩
  | q :: M, i, s, hd, hi, hm, ha => by
    have hil : i < L.length := by
      have := congrArg List.length hd
      simp at this
      omega
    have hq : L.getD i 0 = q := by
      have := congrArg (fun l => l.head?) hd
      simp at this
      rw [List.getD_eq_getElem?_getD, this]
      rfl
    have hqL : q ∈ L := by
      rw [← hq, List.getD_eq_getElem?_getD, List.getElem?_eq_getElem hil]
      exact List.getElem_mem hil
    have hqo := (hL.out q hqL).2
    have hlen := hL.len
    have hdr : L.drop (i + 1) = M := by
      have := congrArg List.tail hd
      simpa using this
    have hmid : MidP first G L D0 (s.put q (s.D (first + 1 + i))).D := by
      rw [put_D]
      split
      · refine ⟨?_, fun a hal => ?_, fun j hj hjL => ?_⟩
        · unfold setBlk; rw [if_neg (by omega)]; exact hm.1
        · unfold setBlk; rw [if_neg (by omega)]; exact hm.2.1 a hal
        · unfold setBlk; rw [if_neg (fun e : j = q => hjL (e.symm ▸ hqL))]; exact hm.2.2 j hj hjL
      · exact hm
    by_cases hu : s.up = true
    · have e : inst first (q :: M) i s = inst first M (i + 1) (s.put q (s.D (first + 1 + i))) := by
        show (if s.up = true then _ else _) = _
        rw [if_pos hu]
      rw [e]
      have ih := inst_stop hL M (i + 1) (s.put q (s.D (first + 1 + i))) hdr hil hmid (fun a hal => by
        rw [put_D, if_pos hu]
        unfold setBlk
        by_cases hai : L.getD a 0 = q
        · rw [if_pos hai, hm.2.1 i hil, hq, hai]
        · rw [if_neg hai]
          refine ha a ?_
          rcases Nat.lt_or_ge a i with h | h
          · exact h
          · obtain rfl : a = i := by omega
            exact absurd hq hai)
      exact ⟨ih.1, ih.2.1, fun h => ih.2.2 (h.put _ _)⟩
    · have e : inst first (q :: M) i s = (s.put q (s.D (first + 1 + i)), 24) := by
        show (if s.up = true then _ else _) = _
        rw [if_neg hu]
      rw [e]
      exact ⟨hmid, (fun h => by cases h), (fun h => absurd h.up hu)⟩
/-- What install does with a log that is written. -/
theorem install_stop (hL : OkL first n L) (h0 : L ≠ []) (s : DSt) (hm : MidP first G L D0 s.D) :
    (MidP first G L D0 (install first L s).1.D ∨ OldP first (newD G L D0) (install first L s).1.D) ∧ ((install first L s).2 = 0 → OldP first (newD G L D0) (install first L s).1.D) ∧ (Alive s → (install first L s).2 = 0 ∧ Alive (install first L s).1) := by
  obtain ⟨i1, i2, i3⟩ := inst_stop hL L 0 s rfl (Nat.zero_le _) hm (fun a ha => by omega)
  obtain ⟨r, hr⟩ : ∃ r, r = inst first L 0 s := ⟨_, rfl⟩
  have e : install first L s = if r.2 = 0 then (r.1.put first (logB []), r.1.code) else r := by
    unfold install
    rw [if_neg h0, hr]
  rw [← hr] at i1 i2 i3
  rw [e]
  by_cases hr0 : r.2 = 0
  · rw [if_pos hr0]
    have h2 := i2 hr0
    by_cases hu : r.1.up = true
    · have hN : OldP first (newD G L D0) (r.1.put first (logB [])).D := by
        rw [put_D, if_pos hu]
        refine ⟨by unfold setBlk; rw [if_pos rfl], fun j hj => ?_⟩
        unfold setBlk newD
        rw [if_neg (by omega)]
        by_cases hjL : j ∈ L
        · rw [if_pos hjL]
          obtain ⟨a, ha, rfl⟩ := List.getElem_of_mem hjL
          have := h2 a ha
          rw [List.getD_eq_getElem?_getD, List.getElem?_eq_getElem ha] at this
          exact this
        · rw [if_neg hjL]
          exact i1.2.2 j hj hjL
      exact ⟨.inr hN, fun _ => hN, fun h => ⟨if_pos hu, (i3 h).2.put _ _⟩⟩
    · have hD : (r.1.put first (logB [])).D = r.1.D := by rw [put_D, if_neg hu]
      have hc : r.1.code = 24 := if_neg hu
      refine ⟨.inl ?_, fun h => ?_, fun h => absurd (i3 h).2.up hu⟩
      · show MidP first G L D0 (r.1.put first (logB [])).D
        rw [hD]; exact i1
      · have h : r.1.code = 0 := h
        rw [hc] at h
        cases h
  · rw [if_neg hr0]
    exact ⟨.inl i1, fun h => absurd h hr0, fun h => absurd (i3 h).1 hr0⟩
/-- All ways a disk may be. -/
def PhP (first : Nat) (G : Nat → Nat → Nat) (L : List Nat) (D0 D : Nat → Nat → Nat) : Prop := OldP first D0 D ∨ MidP first G L D0 D ∨ OldP first (newD G L D0) D
theorem recov_old (s : DSt) {D1 : Nat → Nat → Nat} (hn : n ≤ 65536) (h : OldP first D1 s.D) : recov first n s = (s, 0, 0) := by
  unfold recov
  rw [h.1, places_head [] n first (by simp) (by simp) hn]
  rfl
theorem recov_stop (hL : OkL first n L) (h0 : L ≠ []) (s : DSt) (h : PhP first G L D0 s.D) :
    PhP first G L D0 (recov first n s).1.D ∧ (Alive s → (recov first n s).2.2 = 0 ∧ Alive (recov first n s).1 ∧ (OldP first D0 (recov first n s).1.D ∨ OldP first (newD G L D0) (recov first n s).1.D) ∧ (OldP first (newD G L D0) s.D → OldP first (newD G L D0) (recov first n s).1.D)) := by
  rcases h with h | h | h
  · rw [recov_old s hL.n h]
    exact ⟨.inl h, fun ha => ⟨rfl, ha, .inl h, fun h => h⟩⟩
  · have e : recov first n s = ((install first L s).1, L.length, (install first L s).2) := by
      unfold recov
      rw [h.1, places_head L n first hL.len hL.out hL.n]
    obtain ⟨i1, i2, i3⟩ := install_stop hL h0 s h
    rw [e]
    exact ⟨.inr i1, fun ha => ⟨(i3 ha).1, (i3 ha).2, .inr (i2 (i3 ha).1), fun _ => i2 (i3 ha).1⟩⟩
  · rw [recov_old s hL.n h]
    exact ⟨.inr (.inr h), fun ha => ⟨rfl, ha, .inr h, fun h => h⟩⟩
theorem logW_stop (hlen : L.length ≤ 30) : ∀ (M : List Nat) (i : Nat) (s : DSt), L.drop i = M → i ≤ L.length → OldP first D0 s.D → (∀ a, a < i → s.D (first + 1 + a) = G (L.getD a 0)) →
    OldP first D0 (logW first G M i s).1.D ∧ ((logW first G M i s).2 = 0 → ∀ a, a < L.length → (logW first G M i s).1.D (first + 1 + a) = G (L.getD a 0))
  | [], i, s, hd, hi, hm, ha => by
    have hi2 : i = L.length := by
      have := congrArg List.length hd
      simp at this
      omega
    subst hi2
    exact ⟨hm, fun _ => ha⟩
  | q :: M, i, s, hd, hi, hm, ha => by
    have hil : i < L.length := by
      have := congrArg List.length hd
      simp at this
      omega
    have hq : L.getD i 0 = q := by
      have := congrArg (fun l => l.head?) hd
      simp at this
      rw [List.getD_eq_getElem?_getD, this]
      rfl
    have hdr : L.drop (i + 1) = M := by
      have := congrArg List.tail hd
      simpa using this
    have hold : OldP first D0 (s.put (first + 1 + i) (G q)).D := by
      rw [put_D]
      split
      · refine ⟨?_, fun j hj => ?_⟩
        · unfold setBlk; rw [if_neg (by omega)]; exact hm.1
        · unfold setBlk; rw [if_neg (by omega)]; exact hm.2 j hj
      · exact hm
    by_cases hu : s.up = true
    · have e : logW first G (q :: M) i s = logW first G M (i + 1) (s.put (first + 1 + i) (G q)) := by
        show (if s.up = true then _ else _) = _
        rw [if_pos hu]
      rw [e]
      exact logW_stop hlen M (i + 1) (s.put (first + 1 + i) (G q)) hdr hil hold (fun a hal => by
        rw [put_D, if_pos hu]
        unfold setBlk
        by_cases hai : a = i
        · rw [if_pos (by omega), hai, hq]
        · rw [if_neg (by omega)]
          exact ha a (by omega))
    · have e : logW first G (q :: M) i s = (s.put (first + 1 + i) (G q), 24) := by
        show (if s.up = true then _ else _) = _
        rw [if_neg hu]
      rw [e]
      exact ⟨hold, fun h => by cases h⟩
/-- A commit, wherever the disk stops. -/
theorem commit_stop (hL : OkL first n L) (h0 : L ≠ []) (s : DSt) (h : OldP first D0 s.D) :
    PhP first G L D0 (commit first G L s).1.D ∧ ((commit first G L s).2.1 = 0 → OldP first (newD G L D0) (commit first G L s).1.D) := by
  obtain ⟨a1, a2⟩ := logW_stop (G := G) hL.len L 0 s rfl (Nat.zero_le _) h (fun a ha => by omega)
  obtain ⟨r, hr⟩ : ∃ r, r = logW first G L 0 s := ⟨_, rfl⟩
  have e : commit first G L s = if r.2 ≠ 0 then (r.1, r.2, false) else
      if r.1.up = true then ((install first L (r.1.put first (logB L))).1, (install first L (r.1.put first (logB L))).2, true) else (r.1.put first (logB L), 24, false) := by
    unfold commit
    rw [if_neg h0, hr]
  rw [← hr] at a1 a2
  rw [e]
  by_cases hr0 : r.2 ≠ 0
  · rw [if_pos hr0]
    exact ⟨.inl a1, fun h => absurd h hr0⟩
  · rw [if_neg hr0]
    have h2 := a2 (by omega)
    by_cases hu : r.1.up = true
    · rw [if_pos hu]
      have hm : MidP first G L D0 (r.1.put first (logB L)).D := by
        rw [put_D, if_pos hu]
        refine ⟨by unfold setBlk; rw [if_pos rfl], fun a ha => ?_, fun j hj _ => ?_⟩
        · unfold setBlk; rw [if_neg (by omega)]; exact h2 a ha
        · unfold setBlk; rw [if_neg (by omega)]; exact a1.2 j hj
      obtain ⟨i1, i2, i3⟩ := install_stop hL h0 _ hm
      exact ⟨.inr i1, i2⟩
    · rw [if_neg hu]
      refine ⟨.inl ?_, fun h => by cases h⟩
      show OldP first D0 (r.1.put first (logB L)).D
      rw [put_D, if_neg hu]
      exact a1
end
end Go.Proofs.Ytonfnlohbgbffaa
