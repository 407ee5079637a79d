/- The document's console: Read. -/
import Derived.Test.YtmieioaklgdbdaaTtyH
import Derived.Deep.CutBlock
set_option linter.unusedVariables false
set_option linter.unusedSimpArgs false
namespace Go.Proofs.Ytmieioaklgdbdaa
open Go.RowKit

/-- Where the part from one on begins. -/
def fromA (A : Option Addr) (cap k size : Nat) : Option Addr := match A with
  | none => none
  | some a => if cap = k then some a else some ⟨a.block, a.off + k * size, a.spot⟩
section
variable {ρ : Operand → Value} {o : Oper} {x y : Operand} {A : Option Addr} {n cap k : Nat}
theorem sliceTo_u8 (ho : o.op = .slice 26 x none (some y) none) (hx : ρ x = .slice A n cap) (hy : ρ y = .int .i64 k) (hk : k ≤ n) (hc : n ≤ cap) (hm : cap ≤ maxLen) (hA : A = none → cap = 0) (w : World) :
    (execOp ρ o).run Try.prog w = .ok (.value (.slice A k cap)) w := by
  have h1 : ¬ (k : Int) < 0 := by omega
  have h2 : ¬ (cap : Int) < k := by omega
  have h3 : (k : Int) ≤ cap := by omega
  unfold execOp
  rw [ho]
  simp only [hx, hy]
  cases A with
  | none =>
    have := hA rfl
    subst this
    obtain rfl : k = 0 := by omega
    go_simp
  | some a => go_simp
theorem sliceFrom_u8 (ho : o.op = .slice 26 x (some y) none none) (hx : ρ x = .slice A n cap) (hy : ρ y = .int .i64 k) (hk : k ≤ n) (hc : n ≤ cap) (hm : cap ≤ maxLen) (hA : ∀ a, A = some a → a.spot = none) (hA0 : A = none → cap = 0) (w : World) :
    (execOp ρ o).run Try.prog w = .ok (.value (.slice (fromA A cap k 1) (n - k) (cap - k))) w := by
  have h1 : ¬ (k : Int) < 0 := by omega
  have h2 : ¬ (n : Int) < k := by omega
  have h3 : (k : Int) ≤ n := by omega
  have h4 : ¬ (cap : Int) < n := by omega
  unfold execOp
  rw [ho]
  simp only [hx, hy]
  cases A with
  | none =>
    have := hA0 rfl
    subst this
    obtain rfl : n = 0 := by omega
    obtain rfl : k = 0 := by omega
    go_simp
    try rfl
  | some a =>
    obtain ⟨g, off, sp⟩ := a
    have := hA _ rfl
    simp only at this
    subst this
    unfold fromA
    by_cases hck : cap = k
    · subst hck
      obtain rfl : n = cap := by omega
      go_simp
      try simp
    · go_simp
      try simp
end
section
variable {w : World} {base n size : Nat} {e : TypeId} {A : Option Addr} {cap : Nat} {xs : List Value}
/-- Parts of what the call owns. -/
theorem own_none (h : w.ownsRow base e size (.slice A n cap) n xs) : (A = none → cap = 0) ∧ (∀ a, A = some a → a.spot = none) ∧ n ≤ cap ∧ cap ≤ maxLen := by
  rcases h.2 with ⟨h1, h2⟩ | ⟨g, c, cur, h1, _, _, h3, h4, _⟩
  · cases h1
    exact ⟨fun _ => rfl, (fun a ha => by cases ha), by omega, by simp [maxLen]⟩
  · cases h1
    exact ⟨(fun h => by cases h), (fun a ha => by cases ha; rfl), h3, h4⟩
theorem own_to (h : w.ownsRow base e size (.slice A n cap) n xs) (k : Nat) (hk : k ≤ n) : SR w (.slice A k cap) k size (xs.take (k * size)) := by
  have hx := h.1
  have hks : k * size ≤ n * size := Nat.mul_le_mul_right _ hk
  have hsr := SR.of_own h
  refine ⟨by rw [List.length_take]; omega, ?_⟩
  rcases hsr.2 with ⟨h1, h2⟩ | ⟨a, c, h1, h2, h3, h4⟩
  · cases h1
    exact .inl ⟨by obtain rfl : k = 0 := by omega
                   rfl, by omega⟩
  · cases h1
    refine .inr ⟨a, _, rfl, by omega, h3, fun h0 => ?_⟩
    obtain ⟨e1, e2, e3⟩ := h4 (by omega)
    exact ⟨e1, e2, fun i hi => by rw [e3 i (by omega), List.getElem?_take_of_lt hi]⟩
theorem own_from (h : w.ownsRow base e size (.slice A n cap) n xs) (k : Nat) (hk : k ≤ n) : SR w (.slice (fromA A cap k size) (n - k) (cap - k)) (n - k) size (xs.drop (k * size)) := by
  have hx := h.1
  have hks : k * size ≤ n * size := Nat.mul_le_mul_right _ hk
  have hsr := SR.of_own h
  have hno := own_none h
  refine ⟨by rw [List.length_drop, hx, Nat.sub_mul], ?_⟩
  rcases hsr.2 with ⟨h1, h2⟩ | ⟨a, c, h1, h2, h3, h4⟩
  · cases h1
    obtain rfl : k = 0 := by omega
    exact .inl ⟨rfl, rfl⟩
  · cases h1
    by_cases hc : cap = k
    · refine .inr ⟨a, cap - k, ?_, by omega, by omega, fun h0 => by omega⟩
      unfold fromA
      simp [hc]
    · refine .inr ⟨⟨a.block, a.off + k * size, a.spot⟩, cap - k, ?_, by omega, by omega, fun h0 => ?_⟩
      · unfold fromA
        simp [hc]
      · obtain ⟨e1, e2, e3⟩ := h4 (by omega)
        refine ⟨e1, e2, fun i hi => ?_⟩
        rw [Nat.sub_mul] at hi
        show w.cell? ⟨a.block, a.off + k * size + i, none⟩ = _
        rw [Nat.add_assoc, e3 _ (by omega), List.getElem?_drop]
end

theorem isSome_of {α : Type} {o : Option α} {x : α} (h : o = some x) : o.isSome = true := by rw [h]; rfl
theorem ttyFirst_is {n : Int} {b : List Int} {p : Nat} (h1 : p < b.length) (h2 : ttyStop n b p) (h3 : ∀ j, j < p → ¬ ttyStop n b j) : ttyFirst n b = some p := by
  cases hf : ttyFirst n b with
  | none => exact absurd h2 (ttyFirst_none hf p h1)
  | some q =>
    obtain ⟨q1, q2, q3⟩ := ttyFirst_some hf
    rcases Nat.lt_trichotomy q p with h | h | h
    · exact absurd q2 (h3 q h)
    · rw [h]
    · exact absurd h2 (q3 p h)
theorem ttyFirst_no {n : Int} {b : List Int} (h : ∀ i, i < b.length → ¬ ttyStop n b i) : ttyFirst n b = none := by
  cases hf : ttyFirst n b with
  | none => rfl
  | some q =>
    obtain ⟨q1, q2, q3⟩ := ttyFirst_some hf
    exact absurd q2 (h q q1)
/-- What the document's Read comes to. -/
def ReadP (n : Int) (b : List Int) (t : Int) : Prop := (t = -1 ∧ ttyCode n b = 33 ∧ ttyOut n b = [] ∧ ttyRest n b = b) ∨ ∃ k : Nat, t = (k : Int) ∧ k ≤ b.length ∧ ttyCode n b = 0 ∧ ttyOut n b = b.take k ∧ ttyRest n b = b.drop k
theorem readP_line {n : Int} {b : List Int} {m p : Nat} (hm : (m : Int) = min n 128) (hn : 0 ≤ n) (h1 : p < b.length) (h2 : p < m) (h3 : b.getD p 0 = 10) (h4 : ∀ j, j < p → b.getD j 0 ≠ 10) : ReadP n b ((p + 1 : Nat) : Int) := by
  have hf : ttyFirst n b = some p := ttyFirst_is h1 (.inl h3) (fun j hj hs => by
    rcases hs with hs | hs | hs
    · exact h4 j hj hs
    · omega
    · omega)
  have h0 : n ≠ 0 := by omega
  exact .inr ⟨p + 1, rfl, by omega, by simp [ttyCode, h0, hf], by simp [ttyOut, h0, hf], by simp [ttyRest, h0, hf]⟩
theorem readP_full {n : Int} {b : List Int} {m : Nat} (hm : (m : Int) = min n 128) (hn : 0 ≤ n) (h1 : m ≤ b.length) (h4 : ∀ j, j < m → b.getD j 0 ≠ 10) : ReadP n b (m : Int) := by
  by_cases h0 : n = 0
  · subst h0
    obtain rfl : m = 0 := by omega
    exact .inr ⟨0, rfl, by omega, by simp [ttyCode], by simp [ttyOut], by simp [ttyRest]⟩
  · have hf : ttyFirst n b = some (m - 1) := ttyFirst_is (by omega) (by unfold ttyStop; omega) (fun j hj hs => by
      rcases hs with hs | hs | hs
      · exact h4 j (by omega) hs
      · omega
      · omega)
    have e : m - 1 + 1 = m := by omega
    exact .inr ⟨m, rfl, h1, by simp [ttyCode, h0, hf], by simp [ttyOut, h0, hf, e], by simp [ttyRest, h0, hf, e]⟩
theorem readP_wait {n : Int} {b : List Int} {m : Nat} (hm : (m : Int) = min n 128) (hn : 0 ≤ n) (h1 : b.length < m) (h4 : ∀ j, j < b.length → b.getD j 0 ≠ 10) : ReadP n b (-1) := by
  have hf : ttyFirst n b = none := ttyFirst_no (fun j hj hs => by
    rcases hs with hs | hs | hs
    · exact h4 j hj hs
    · omega
    · omega)
  have h0 : n ≠ 0 := by omega
  exact .inl ⟨rfl, by simp [ttyCode, h0, hf], by simp [ttyOut, h0, hf], by simp [ttyRest, h0, hf]⟩
section
variable {w w' : World} {base gm : Nat} {ms : Nat → Value} {ins : Nat → List Int} {lost out : Nat → Int}
theorem refRead_neg (gm o : Nat) (n : Int) (hn : n < 0) (w : World) : Calls Try.prog 7 #[.pointer (some ⟨gm, o, none⟩), .int .i64 n] w fun e w' => e = .returned (.tuple #[.slice none 0 0, .int .i64 27]) ∧ w' = w := by
  go_enter Try.func7, Try.ntmps7
  go_wp2_with fail
  go_ret2
  exact ⟨rfl, rfl⟩
set_option maxRecDepth 20000 in
set_option maxHeartbeats 4000000 in
theorem refRead_in (h : RM w base gm ms ins lost out) (l : Nat) (hl : l < 4) (n : Int) (hn : 0 ≤ n) (hb128 : (ins l).length ≤ 128) :
    Calls Try.prog 7 #[.pointer (some ⟨gm, l * 3, none⟩), .int .i64 n] w fun e w' =>
      ∃ u v, e = .returned (.tuple #[v, .int .i64 (ttyCode n (ins l))]) ∧ w'.ownsRow w.heap.size 5 1 v (ttyOut n (ins l)).length ((ttyOut n (ins l)).map (.int .u8)) ∧ RM w' base gm (upd ms l u) (upd ins l (ttyRest n (ins l))) lost out ∧ Chg (fun k => k = gm) w w' ∧ ∀ q, u.ownBlock = some q → (ms l).ownBlock = some q ∨ w.heap.size ≤ q := by
  obtain ⟨o, ho⟩ : ∃ o, o = l * 3 := ⟨_, rfl⟩
  rw [← ho]
  have hown := h.own l hl
  obtain ⟨b, hb⟩ : ∃ b, b = ins l := ⟨_, rfl⟩
  rw [← hb] at hb128 hown ⊢
  obtain ⟨A, cA, hform⟩ := own_form hown
  have c0 : w.cell? ⟨gm, o, none⟩ = some (.slice A b.length cA) := by
    have := h.c0 hl
    rw [hform, ← ho] at this
    exact this
  rw [hform] at hown
  have H := Lib.hid h
  have HO := Lib.hid ho
  have HB := Lib.hid hb
  have HOWN := Lib.hid hown
  have HFM := Lib.hid hform
  have HNA := Lib.hid (own_none hown)
  obtain ⟨m, hm⟩ : ∃ m : Nat, (m : Int) = min n 128 := ⟨(min n 128).toNat, by omega⟩
  have hm128 : m ≤ 128 := by omega
  have HMN := Lib.hid hm
  have n0 : ¬ n < 0 := by omega
  have n0' : decide (n < 0) = false := by rw [decide_eq_false_iff_not]; omega
  clear h ho hb hform hown hm
  go_enter Try.func7, Try.ntmps7
  go_upto_if 12 with fail
  go_cut [1] (fun s1 wx => s1 = .int .i64 (m : Int) ∧ wx = w)
  case first =>
    by_cases h128 : 128 < n
    · obtain rfl : m = 128 := by have := HMN.out; omega
      go_wp2_with fail
      go_meet
      exact ⟨rfl, rfl⟩
    · have g1 : decide ((128 : Int) < n) = false := by rw [decide_eq_false_iff_not]; omega
      have HE := Lib.hid (show n = (m : Int) from by have := HMN.out; omega)
      go_wp2_with fail
      go_meet
      exact ⟨by rw [HE.out], rfl⟩
  case rest =>
    obtain ⟨rfl, rfl⟩ := hcut
    clear n0 n0'
    go_at_K
    go_step
    go_upto_block 0 with fail
    go_cut [6] (fun s6 wx => wx = wc ∧ ∃ t : Int, s6 = .int .i64 t ∧ ((t = -1 ∧ ∀ j, j < b.length → j < m → b.getD j 0 ≠ 10) ∨ ∃ p : Nat, t = ((p + 1 : Nat) : Int) ∧ p < b.length ∧ p < m ∧ b.getD p 0 = 10 ∧ ∀ j, j < p → b.getD j 0 ≠ 10))
    case first =>
      go_wp2_with fail
      go_loopw [6, 7] (fun r6 r7 wx => ∃ (i : Nat) (t : Int), i ≤ b.length ∧ i ≤ m ∧ r7 = .int .i64 i ∧ r6 = .int .i64 t ∧ wx = wc ∧ ((t = -1 ∧ ∀ j, j < i → b.getD j 0 ≠ 10) ∨ ∃ p : Nat, t = ((p + 1 : Nat) : Int) ∧ i = p + 1 ∧ b.getD p 0 = 10 ∧ ∀ j, j < p → b.getD j 0 ≠ 10)) (fun _ r7 _ => b.length - (intOf r7).toNat)
      case atStart => exact ⟨0, -1, by omega, by omega, rfl, rfl, rfl, .inl ⟨rfl, fun j hj => by omega⟩⟩
      case round =>
        obtain ⟨i, t, hi, him, rfl, rfl, rfl, ht⟩ := hrel
        rcases ht with ⟨rfl, hno⟩ | ⟨p, rfl, rfl, hp10, hpn⟩
        · have HNO := Lib.hid hno
          clear hno
          by_cases hil : i < b.length
          · have g1 : (i : Int) < b.length := by omega
            by_cases him2 : i < m
            · have g2 : (i : Int) < m := by omega
              obtain ⟨z, hz⟩ : ∃ z, z = b.getD i 0 := ⟨_, rfl⟩
              obtain ⟨g0, hA, hcz⟩ : ∃ g0, A = some ⟨g0, 0, none⟩ ∧ wr.cell? ⟨g0, i, none⟩ = some (.int .u8 z) := by
                rcases (SR.of_own HOWN.out).cases with ⟨h, _⟩ | ⟨_, g0, off, c1, hs, _, _, hg, hc⟩
                · omega
                obtain ⟨g1', e1⟩ : ∃ g1', A = some ⟨g1', 0, none⟩ := by
                  rcases HOWN.out.2 with ⟨h, _⟩ | ⟨g1', cap, cur, h, _⟩
                  · injection h with h1 h2; omega
                  · injection h with h1
                    exact ⟨g1', h1⟩
                injection hs with e2 _ _
                rw [e1] at e2
                injection e2 with e2
                injection e2 with e2 e3
                subst e2
                subst e3
                refine ⟨g1', e1, ?_⟩
                have := hc i (by omega)
                rw [Nat.zero_add] at this
                rw [this, hz]
                simp [List.getD_eq_getElem?_getD, hil]
              subst hA
              have HZ := Lib.hid hz
              clear hz
              by_cases hz10 : z = 10
              · have HF := Lib.hid (show b.getD i 0 = 10 from by rw [← HZ.out]; exact hz10)
                have g3 : (z == 10) = true := by rw [beq_iff_eq]; exact hz10
                clear hz10
                go_wp2_with fail
                go_roundw
                case rel => exact ⟨i + 1, _, by omega, by omega, by go_num, by go_num, by trivial, .inr ⟨i, rfl, rfl, HF.out, HNO.out⟩⟩
                case measure => simp [intOf]; omega
              · have g3 : (z == 10) = false := by rw [beq_eq_false_iff_ne]; exact hz10
                have HF := Lib.hid (show ∀ j, j < i + 1 → b.getD j 0 ≠ 10 from fun j hj => by
                  rcases Nat.lt_or_ge j i with h | h
                  · exact HNO.out j h
                  · obtain rfl : j = i := by omega
                    rw [← HZ.out]
                    exact hz10)
                clear hz10
                go_wp2_with fail
                go_roundw
                case rel => exact ⟨i + 1, -1, by omega, by omega, by go_num, rfl, by trivial, .inl ⟨rfl, HF.out⟩⟩
                case measure => simp [intOf]; omega
            · have g2 : decide ((i : Int) < m) = false := by rw [decide_eq_false_iff_not]; omega
              have g2n : decide (i < m) = false := by rw [decide_eq_false_iff_not]; exact him2
              go_wp2_with fail
              go_meet
              exact ⟨rfl, -1, rfl, .inl ⟨rfl, fun j _ hj => HNO.out j (by omega)⟩⟩
          · have g1 : decide ((i : Int) < b.length) = false := by rw [decide_eq_false_iff_not]; omega
            have g1n : decide (i < b.length) = false := by rw [decide_eq_false_iff_not]; exact hil
            go_wp2_with fail
            go_meet
            exact ⟨rfl, -1, rfl, .inl ⟨rfl, fun j hj _ => HNO.out j (by omega)⟩⟩
        · have HPN := Lib.hid (show b.getD p 0 = 10 ∧ (∀ j, j < p → b.getD j 0 ≠ 10) from ⟨hp10, hpn⟩)
          have HPL := Lib.hid (show p < b.length ∧ p < m from ⟨by omega, by omega⟩)
          obtain ⟨pp, hpp⟩ : ∃ pp, pp = p + 1 := ⟨_, rfl⟩
          rw [← hpp] at hi him ⊢
          have g3 : decide (((pp : Nat) : Int) < 0) = false := by rw [decide_eq_false_iff_not]; omega
          have g4 : ¬ ((pp : Nat) : Int) < 0 := by omega
          have HPP := Lib.hid hpp
          clear hp10 hpn hpp
          by_cases q1 : pp < b.length
          · have g1 : (pp : Int) < b.length := by omega
            by_cases q2 : pp < m
            · have g2 : (pp : Int) < m := by omega
              go_wp2_with fail
              go_meet
              exact ⟨rfl, _, rfl, .inr ⟨p, by rw [HPP.out], HPL.out.1, HPL.out.2, HPN.out.1, HPN.out.2⟩⟩
            · have g2 : decide ((pp : Int) < m) = false := by rw [decide_eq_false_iff_not]; omega
              have g2n : decide (pp < m) = false := by rw [decide_eq_false_iff_not]; exact q2
              go_wp2_with fail
              go_meet
              exact ⟨rfl, _, rfl, .inr ⟨p, by rw [HPP.out], HPL.out.1, HPL.out.2, HPN.out.1, HPN.out.2⟩⟩
          · have g1 : decide ((pp : Int) < b.length) = false := by rw [decide_eq_false_iff_not]; omega
            have g1n : decide (pp < b.length) = false := by rw [decide_eq_false_iff_not]; exact q1
            go_wp2_with fail
            go_meet
            exact ⟨rfl, _, rfl, .inr ⟨p, by rw [HPP.out], HPL.out.1, HPL.out.2, HPN.out.1, HPN.out.2⟩⟩
    case rest =>
      obtain ⟨rfl, t, rfl, ht⟩ := hcut
      have HT := Lib.hid ht
      clear ht
      go_at_K
      go_step
      go_step
      go_cut [6] (fun s6 wx => wx = wc ∧ ∃ t' : Int, s6 = .int .i64 t' ∧ ReadP n b t')
      case first =>
        rcases HT.out with ⟨rfl, hno⟩ | ⟨p, rfl, h1, h2, h3, h4⟩
        · by_cases hml : m ≤ b.length
          · have HP := Lib.hid (readP_full HMN.out hn hml (fun j hj => hno j (by omega) hj))
            have g1 : (m : Int) ≤ b.length := by omega
            clear hno HT
            go_wp2_with fail
            go_meet
            exact ⟨rfl, _, rfl, HP.out⟩
          · have HP := Lib.hid (readP_wait HMN.out hn (by omega) (fun j hj => hno j hj (by omega)))
            have g1 : decide ((m : Int) ≤ b.length) = false := by rw [decide_eq_false_iff_not]; omega
            have g1n : decide (m ≤ b.length) = false := by rw [decide_eq_false_iff_not]; omega
            clear hno HT
            go_wp2_with fail
            go_meet
            exact ⟨rfl, _, rfl, HP.out⟩
        · have HP := Lib.hid (readP_line HMN.out hn h1 h2 h3 h4)
          obtain ⟨pp, hpp⟩ : ∃ pp, pp = p + 1 := ⟨_, rfl⟩
          rw [← hpp] at HP ⊢
          have g3 : decide (((pp : Nat) : Int) < 0) = false := by rw [decide_eq_false_iff_not]; omega
          have g4 : ¬ ((pp : Nat) : Int) < 0 := by omega
          clear h1 h2 h3 h4 HT hpp
          go_wp2_with fail
          go_meet
          exact ⟨rfl, _, rfl, HP.out⟩
      case rest =>
        obtain ⟨rfl, t', rfl, hp⟩ := hcut
        clear HT
        go_at_K
        go_step
        rcases hp with ⟨rfl, e1, e2, e3⟩ | ⟨k, rfl, hk, e1, e2, e3⟩
        · have HE := Lib.hid (show ttyCode n b = 33 ∧ ttyOut n b = [] ∧ ttyRest n b = b from ⟨e1, e2, e3⟩)
          clear e1 e2 e3
          go_wp2_with fail
          go_ret2
          rw [HE.out.1, HE.out.2.1, HE.out.2.2]
          refine ⟨ms l, .slice none 0 0, rfl, World.ownsRow_nil _ _ _ _, ?_, Chg.of_below _ (Below.refl _ _), fun q hq => .inl hq⟩
          rw [HB.out, upd_self, upd_self]
          exact H.out
        · have HE := Lib.hid (show ttyCode n b = 0 ∧ ttyOut n b = b.take k ∧ ttyRest n b = b.drop k from ⟨e1, e2, e3⟩)
          have k0 : ¬ ((k : Nat) : Int) < 0 := by omega
          have k0' : decide (((k : Nat) : Int) < 0) = false := by rw [decide_eq_false_iff_not]; omega
          clear e1 e2 e3
          have HTO := Lib.hid (own_to HOWN.out k hk)
          have HFR := Lib.hid (own_from HOWN.out k hk)
          have HBS := Lib.hid H.out.lt
          have c0a : (wc.alloc (.cells #[] 5)).cell? ⟨gm, o, none⟩ = some (.slice A b.length cA) := (World.cell?_of_block (a := ⟨gm, o, none⟩) ((bnew wc (.cells #[] 5)).block gm H.out.row.lt)).trans c0
          go_wp2_with (first
            | (refine wpList_by (by kernel_rfl) (some 61) rfl (sliceTo_u8 rfl (by go_simp; try rfl) (by go_simp; try rfl) hk HNA.out.2.2.1 HNA.out.2.2.2 HNA.out.1 _) ?_)
            | (refine wpList_append_sr rfl (.tmp 55) (.tmp 61) 26 rfl (some 62) rfl wc.heap.size 5 (.int .u8 0) 1 1 Try.underlying26 u8_row rfl (by omega) (.slice (some ⟨wc.heap.size, 0, none⟩) 0 0) (.slice A k cA) 0 k
                [] ((b.map (Value.int .u8)).take (k * 1)) (by simp [Act.eval, Act.put]) (World.ownsRow_lit wc #[] 0 (Nat.le_refl _) (by simp [maxLen]) rfl) (by simp [Act.eval, Act.put]) (HTO.out.alloc _) (fun u hu => ints_one _ _ u (List.mem_of_mem_take hu)) (by simp [maxLen]; omega) (by omega) (by simp) ?_
               intro v4 w4 hown4 hgr4 hat4
               have HB4 := Lib.hid (show Below wc.heap.size wc w4 from (bnew wc (.cells #[] 5)).grown hgr4 (by simp) (fun j hj => by simp [Value.ownBlock] at hj; omega))
               have HV4 := Lib.hid hown4
               have c0b : (w4.alloc (.cells #[] 5)).cell? ⟨gm, o, none⟩ = some (.slice A b.length cA) := (World.cell?_of_block (a := ⟨gm, o, none⟩) ((bnewAfter HB4.out (.cells #[] 5)).block gm H.out.row.lt)).trans c0
               clear hown4 hgr4 hat4 c0a)
            | (refine wpList_by (by kernel_rfl) (some 70) rfl (sliceFrom_u8 rfl (by go_simp; try rfl) (by go_simp; try rfl) hk HNA.out.2.2.1 HNA.out.2.2.2 HNA.out.2.1 HNA.out.1 _) ?_)
            | (refine wpList_append_sr rfl (.tmp 64) (.tmp 70) 26 rfl (some 71) rfl w4.heap.size 5 (.int .u8 0) 1 1 Try.underlying26 u8_row rfl (by omega) (.slice (some ⟨w4.heap.size, 0, none⟩) 0 0) (.slice (fromA A cA k 1) (b.length - k) (cA - k)) 0 (b.length - k)
                [] ((b.map (Value.int .u8)).drop (k * 1)) (by simp [Act.eval, Act.put]) (World.ownsRow_lit w4 #[] 0 (Nat.le_refl _) (by simp [maxLen]) rfl) (by simp [Act.eval, Act.put]) ((HFR.out.keep HB4.out).alloc _) (fun u hu => ints_one _ _ u (List.mem_of_mem_drop hu)) (by simp [maxLen]; omega) (by omega) (by simp) ?_
               intro v6 w6 hown6 hgr6 hat6
               obtain ⟨A6, n6, c6, hform6⟩ := own_form' hown6
               subst hform6
               have HB6' := Lib.hid (show Below w4.heap.size w4 w6 from (bnew w4 (.cells #[] 5)).grown hgr6 (by simp) (fun j hj => by simp [Value.ownBlock] at hj; omega))
               have HB6 := Lib.hid (bnext HB4.out HB6'.out)
               have HV6 := Lib.hid hown6
               have HW4 := Lib.hid (own_below HV4.out HB6'.out)
               have HROW6 := Lib.hid (H.out.row.of_block (HB6.out.block gm H.out.row.lt))
               have d6 := HROW6.out.cell (i := o) (by have := HO.out; omega)
               have f6 := HROW6.out.frozen
               clear hown6 hgr6 hat6 c0b))
          all_goals
            go_ret2
            have o7 := one_setCell w6 gm o (.slice A6 n6 c6)
            have hrow7 : (w6.setCell ⟨gm, o, none⟩ (.slice A6 n6 c6)).rowIs gm 29 12 (fun i => if i = l * 3 then (.slice A6 n6 c6) else rmCell ms lost out i) := (HROW6.out.set o (.slice A6 n6 c6)).congr (fun i hi => by rw [HO.out])
            have hown6 : w6.ownsRow base 5 1 (.slice A6 n6 c6) (b.drop k).length ((b.drop k).map (.int .u8)) := by
              have h1 := HV6.out
              rw [Nat.zero_add, List.nil_append, Nat.mul_one, ← List.map_drop] at h1
              rw [List.length_drop]
              exact own_lower h1 (Nat.le_trans HBS.out.2 HB4.out.size)
            have hlt6 : ∀ q, (Value.slice A6 n6 c6).ownBlock = some q → wc.heap.size ≤ q := fun q hq => Nat.le_trans HB4.out.size (HV6.out.lt q hq).1
            have hrm := H.out.setIn hl (S := fun _ => False) (Chg.of_below _ HB6.out) (fun k hk => hk.elim) hown6 (fun q hq => .inr (hlt6 q hq)) (fun z hz => H.out.wf l hl z (by rw [← HB.out]; exact List.mem_of_mem_drop hz)) hrow7 o7
            refine ⟨.slice A6 n6 c6, v4, by rw [HE.out.1]; rfl, ?_, ?_, (Chg.of_below _ HB6.out).oneX o7 (.inl rfl), fun q hq => .inr (hlt6 q hq)⟩
            · rw [HE.out.2.1]
              have h1 := own_one HW4.out o7 (fun q hq e => by
                have h2 := (HW4.out.lt q hq).1
                have h3 := HBS.out
                cases e
                omega)
              rw [Nat.zero_add, List.nil_append, Nat.mul_one, ← List.map_take] at h1
              rw [List.length_take, Nat.min_eq_left hk]
              exact h1
            · rw [HE.out.2.2]
              exact hrm
end
end Go.Proofs.Ytmieioaklgdbdaa
