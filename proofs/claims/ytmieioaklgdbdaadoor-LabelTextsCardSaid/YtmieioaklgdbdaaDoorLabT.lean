/- Labels as texts: number; what a text begins with. -/
import Derived.Test.YtmieioaklgdbdaaDoorLabI
import Derived.Lib.Strings
set_option linter.unusedVariables false
set_option linter.unusedSimpArgs false
namespace Go.Proofs.YtmieioaklgdbdaaDoor
open Go.RowKit
def strV (l : List UInt8) : Value := .string ⟨l.toArray⟩
theorem str_size (l : List UInt8) : (⟨l.toArray⟩ : ByteArray).size = l.length := by
  rw [Lib.size_eq]
theorem str_list (l : List UInt8) : (⟨l.toArray⟩ : ByteArray).toList = l := by
  rw [Lib.toList_data]
theorem str_get (l : List UInt8) (k : Nat) (hk : k < l.length) (h) : (⟨l.toArray⟩ : ByteArray)[k]'h = l.getD k 0 := by
  rw [List.getD_eq_getElem?_getD, List.getElem?_eq_getElem hk]
  rfl
theorem str_extract (l : List UInt8) (a b : Nat) : (⟨l.toArray⟩ : ByteArray).extract a b = ⟨((l.drop a).take (b - a)).toArray⟩ := Lib.extract_eq _ _ _
theorem str_from (l : List UInt8) (a : Nat) : (⟨l.toArray⟩ : ByteArray).extract a (⟨l.toArray⟩ : ByteArray).size = ⟨(l.drop a).toArray⟩ := by
  rw [str_extract, str_size, List.take_of_length_le (by simp)]
theorem str_to (l : List UInt8) (a : Nat) : (⟨l.toArray⟩ : ByteArray).extract 0 a = ⟨(l.take a).toArray⟩ := by
  rw [str_extract, List.drop_zero, Nat.sub_zero]
def isDig (b : UInt8) : Prop := 48 ≤ b.toNat ∧ b.toNat ≤ 57
instance (b : UInt8) : Decidable (isDig b) := inferInstanceAs (Decidable (_ ∧ _))
/-- One or two digits, without a nought ahead; what follows. -/
def numL : List UInt8 → Option (Nat × List UInt8)
  | [] => none
  | [a] => if isDig a then some (a.toNat - 48, []) else none
  | a :: b :: u => if isDig a then (if isDig b then (if a.toNat = 48 then none else some ((a.toNat - 48) * 10 + (b.toNat - 48), u)) else some (a.toNat - 48, b :: u)) else none
def numR (l : List UInt8) : Value := match numL l with
  | some (n, r) => .tuple #[.int .i64 n, strV r, .bool true]
  | none => .tuple #[.int .i64 0, strV l, .bool false]
/-- The digits that were read. -/
def digTo (l : List UInt8) : Nat → Nat
  | 0 => 0
  | i + 1 => digTo l i * 10 + ((l.getD i 0).toNat - 48)
theorem numR_end {l : List UInt8} {i : Nat} (hi : i ≤ 2) (hl : i ≤ l.length) (hd : ∀ j, j < i → isDig (l.getD j 0)) (he : i = l.length ∨ i = 2 ∨ ¬ isDig (l.getD i 0)) :
    numR l = if i = 0 ∨ (i = 2 ∧ (l.getD 0 0).toNat = 48) then .tuple #[.int .i64 0, strV l, .bool false] else .tuple #[.int .i64 (digTo l i : Nat), strV (l.drop i), .bool true] := by
  unfold numR
  match l, hl, hd, he with
  | [], hl, hd, he =>
    obtain rfl : i = 0 := by simpa using hl
    simp [numL]
  | [a], hl, hd, he =>
    have : i = 0 ∨ i = 1 := by simp at hl; omega
    rcases this with rfl | rfl
    · have h1 : ¬ isDig a := by simpa using he
      simp [numL, h1]
    · have h1 : isDig a := by simpa using hd 0 (by omega)
      simp [numL, h1, digTo]
  | a :: b :: u, hl, hd, he =>
    have : i = 0 ∨ i = 1 ∨ i = 2 := by omega
    rcases this with rfl | rfl | rfl
    · have h1 : ¬ isDig a := by simpa using he
      simp [numL, h1]
    · have h1 : isDig a := by simpa using hd 0 (by omega)
      have h2 : ¬ isDig b := by simpa using he
      simp [numL, h1, h2, digTo]
    · have h1 : isDig a := by simpa using hd 0 (by omega)
      have h2 : isDig b := by simpa using hd 1 (by omega)
      by_cases h : a.toNat = 48
      · simp [numL, h1, h2, h]
      · simp [numL, h1, h2, h, digTo]
theorem digTo_le (l : List UInt8) : ∀ i, i ≤ 2 → (∀ j, j < i → isDig (l.getD j 0)) → digTo l i ≤ 99
  | 0, _, _ => by simp [digTo]
  | 1, _, h => by have := h 0 (by omega); unfold isDig at this; simp only [digTo]; omega
  | 2, _, h => by have h1 := h 0 (by omega); have h2 := h 1 (by omega); unfold isDig at h1 h2; simp only [digTo]; omega
  | i + 3, h, _ => by omega
set_option maxHeartbeats 2000000 in
theorem number_any (l : List UInt8) (hl : l.length ≤ 100000) (w : World) : Calls Tryd.prog 11 #[strV l] w fun e w' => e = .returned (numR l) ∧ Below w.heap.size w w' := by
  unfold strV
  have hsz := str_size l
  have hget := str_get l
  obtain ⟨s, hs⟩ : ∃ s : ByteArray, s = ⟨l.toArray⟩ := ⟨_, rfl⟩
  obtain ⟨L, hL⟩ : ∃ L, L = l.length := ⟨_, rfl⟩
  rw [← hs] at hsz hget ⊢
  rw [← hL] at hsz hget hl
  have hfrom := str_from l
  rw [← hs] at hfrom
  have HF := Lib.hid hfrom
  have HG := Lib.hid hget
  have HLL := Lib.hid hL
  have HS := Lib.hid hs
  clear hs hL hget hfrom
  go_enter Tryd.func11, Tryd.ntmps11
  go_wp2_with fail
  go_loopw [5, 6] (fun r5 r6 wx => ∃ i : Nat, i ≤ 2 ∧ i ≤ L ∧ r6 = .int .i64 i ∧ r5 = .int .i64 (digTo l i : Nat) ∧ (∀ j, j < i → isDig (l.getD j 0)) ∧ wx = w) (fun _ r6 _ => 2 - (intOf r6).toNat)
  case atStart => exact ⟨0, by omega, by omega, rfl, rfl, fun j hj => by omega, rfl⟩
  case round =>
    obtain ⟨i, hi2, hiL, rfl, rfl, hd, rfl⟩ := hrel
    have hd99 := digTo_le l i hi2 hd
    obtain ⟨bz, hz⟩ : ∃ bz, bz = l.getD i 0 := ⟨_, rfl⟩
    obtain ⟨n, hn⟩ : ∃ n, n = digTo l i := ⟨_, rfl⟩
    rw [← hn] at hd99 ⊢
    have HN := Lib.hid hn
    have HZ := Lib.hid hz
    have HD := Lib.hid hd
    clear hn hz hd
    by_cases h1 : i < L
    · have g1 : (i : Int) < L := by omega
      by_cases h2 : i < 2
      · have g2 : (i : Int) < 2 := by omega
        have hx : ∀ h, s[i]'h = bz := fun h => (HG.out i h1 h).trans HZ.out.symm
        by_cases h3 : 48 ≤ bz.toNat
        · have g3 : (48 : Int) ≤ bz.toNat := by omega
          by_cases h4 : bz.toNat ≤ 57
          · have g4 : (bz.toNat : Int) ≤ 57 := by omega
            go_wp2_with fail
            go_roundw
            case rel => exact ⟨i + 1, by omega, by omega, by go_num, by simp only [digTo]; rw [← HZ.out, ← HN.out]; exact congrArg (Value.int .i64) (by omega), fun j hj => by
              rcases Nat.lt_or_ge j i with h | h
              · exact HD.out j h
              · obtain rfl : j = i := by omega
                rw [← HZ.out]
                exact ⟨h3, h4⟩, by trivial⟩
            case measure => simp [intOf]; omega
          · have g4 : decide ((bz.toNat : Int) ≤ 57) = false := by rw [decide_eq_false_iff_not]; omega
            have g4n : decide (bz.toNat ≤ 57) = false := by rw [decide_eq_false_iff_not]; omega
            have hiL' : i ≤ l.length := by rw [← HLL.out]; exact hiL
            have HR := Lib.hid (numR_end hi2 hiL' HD.out (.inr (.inr (fun h => h4 (by rw [HZ.out]; exact h.2)))))
            clear hiL'
            rcases (show i = 0 ∨ i = 1 ∨ i = 2 by omega) with hi0 | hi0 | hi0
            · first
                | (exfalso; omega)
                | (have HR0 := Lib.hid (show numR l = .tuple #[.int .i64 0, strV l, .bool false] from by rw [HR.out, if_pos (.inl hi0)])
                   clear HR
                   subst hi0
                   go_wp2_with fail
                   go_ret3
                   exact ⟨by rw [HR0.out, HS.out]; rfl, Below.refl _ _⟩)
            · first
                | (exfalso; omega)
                | (have HR0 := Lib.hid (show numR l = .tuple #[.int .i64 n, strV (l.drop 1), .bool true] from by rw [HR.out, if_neg (by omega), ← HN.out, hi0])
                   clear HR
                   subst hi0
                   have hL1 : (1 : Int) ≤ L := by omega
                   have hL1n : 1 ≤ L := by omega
                   obtain ⟨s1, hs1⟩ : ∃ s1 : ByteArray, s1 = ⟨(l.drop 1).toArray⟩ := ⟨_, rfl⟩
                   have hfr : s.extract 1 L = s1 := by have := HF.out 1; rw [hsz, ← hs1] at this; exact this
                   have HS1 := Lib.hid hs1
                   clear hs1
                   go_wp2_with fail
                   go_quiet (fail)
                   go_wp2_with fail
                   go_ret3
                   exact ⟨by rw [HR0.out, HS1.out]; rfl, bdrewN (Below.refl _ _) _⟩)
            · first
                | (exfalso; omega)
                | (have hL2 : (2 : Int) ≤ L := by omega
                   have hL2n : 2 ≤ L := by omega
                   have hL0 : 0 < L := by omega
                   have hL0' : (0 : Int) < L := by omega
                   obtain ⟨b0, hb0⟩ : ∃ b0, b0 = l.getD 0 0 := ⟨_, rfl⟩
                   have hx0 : ∀ h, s[0]'h = b0 := fun h => (HG.out 0 hL0 h).trans hb0.symm
                   obtain ⟨s1, hs1⟩ : ∃ s1 : ByteArray, s1 = ⟨(l.drop 2).toArray⟩ := ⟨_, rfl⟩
                   have hfr : s.extract 2 L = s1 := by have := HF.out 2; rw [hsz, ← hs1] at this; exact this
                   have HS1 := Lib.hid hs1
                   clear hs1
                   by_cases h48 : b0.toNat = 48
                   · have HR0 := Lib.hid (show numR l = .tuple #[.int .i64 0, strV l, .bool false] from by rw [HR.out, if_pos (.inr ⟨hi0, by rw [← hb0]; exact h48⟩)])
                     clear HR hb0
                     subst hi0
                     have q48 : ((b0.toNat : Int) == 48) = true := by rw [beq_iff_eq]; omega
                     go_wp2_with fail
                     go_ret3
                     exact ⟨by rw [HR0.out, HS.out]; rfl, Below.refl _ _⟩
                   · have HR0 := Lib.hid (show numR l = .tuple #[.int .i64 n, strV (l.drop 2), .bool true] from by rw [HR.out, if_neg (fun h => by rcases h with h | h; omega; exact h48 (by rw [hb0]; exact h.2)), ← HN.out, hi0])
                     clear HR hb0
                     subst hi0
                     have q48 : ((b0.toNat : Int) == 48) = false := by rw [beq_eq_false_iff_ne]; omega
                     have q48n : (b0.toNat == 48) = false := by rw [beq_eq_false_iff_ne]; omega
                     go_wp2_with fail
                     go_quiet (fail)
                     go_wp2_with fail
                     go_ret3
                     exact ⟨by rw [HR0.out, HS1.out]; rfl, bdrewN (Below.refl _ _) _⟩)
        · have g3 : decide ((48 : Int) ≤ bz.toNat) = false := by rw [decide_eq_false_iff_not]; omega
          have g3n : decide (48 ≤ bz.toNat) = false := by rw [decide_eq_false_iff_not]; omega
          have hiL' : i ≤ l.length := by rw [← HLL.out]; exact hiL
          have HR := Lib.hid (numR_end hi2 hiL' HD.out (.inr (.inr (fun h => h3 (by rw [HZ.out]; exact h.1)))))
          clear hiL'
          rcases (show i = 0 ∨ i = 1 ∨ i = 2 by omega) with hi0 | hi0 | hi0
          · first
              | (exfalso; omega)
              | (have HR0 := Lib.hid (show numR l = .tuple #[.int .i64 0, strV l, .bool false] from by rw [HR.out, if_pos (.inl hi0)])
                 clear HR
                 subst hi0
                 go_wp2_with fail
                 go_ret3
                 exact ⟨by rw [HR0.out, HS.out]; rfl, Below.refl _ _⟩)
          · first
              | (exfalso; omega)
              | (have HR0 := Lib.hid (show numR l = .tuple #[.int .i64 n, strV (l.drop 1), .bool true] from by rw [HR.out, if_neg (by omega), ← HN.out, hi0])
                 clear HR
                 subst hi0
                 have hL1 : (1 : Int) ≤ L := by omega
                 have hL1n : 1 ≤ L := by omega
                 obtain ⟨s1, hs1⟩ : ∃ s1 : ByteArray, s1 = ⟨(l.drop 1).toArray⟩ := ⟨_, rfl⟩
                 have hfr : s.extract 1 L = s1 := by have := HF.out 1; rw [hsz, ← hs1] at this; exact this
                 have HS1 := Lib.hid hs1
                 clear hs1
                 go_wp2_with fail
                 go_quiet (fail)
                 go_wp2_with fail
                 go_ret3
                 exact ⟨by rw [HR0.out, HS1.out]; rfl, bdrewN (Below.refl _ _) _⟩)
          · first
              | (exfalso; omega)
              | (have hL2 : (2 : Int) ≤ L := by omega
                 have hL2n : 2 ≤ L := by omega
                 have hL0 : 0 < L := by omega
                 have hL0' : (0 : Int) < L := by omega
                 obtain ⟨b0, hb0⟩ : ∃ b0, b0 = l.getD 0 0 := ⟨_, rfl⟩
                 have hx0 : ∀ h, s[0]'h = b0 := fun h => (HG.out 0 hL0 h).trans hb0.symm
                 obtain ⟨s1, hs1⟩ : ∃ s1 : ByteArray, s1 = ⟨(l.drop 2).toArray⟩ := ⟨_, rfl⟩
                 have hfr : s.extract 2 L = s1 := by have := HF.out 2; rw [hsz, ← hs1] at this; exact this
                 have HS1 := Lib.hid hs1
                 clear hs1
                 by_cases h48 : b0.toNat = 48
                 · have HR0 := Lib.hid (show numR l = .tuple #[.int .i64 0, strV l, .bool false] from by rw [HR.out, if_pos (.inr ⟨hi0, by rw [← hb0]; exact h48⟩)])
                   clear HR hb0
                   subst hi0
                   have q48 : ((b0.toNat : Int) == 48) = true := by rw [beq_iff_eq]; omega
                   go_wp2_with fail
                   go_ret3
                   exact ⟨by rw [HR0.out, HS.out]; rfl, Below.refl _ _⟩
                 · have HR0 := Lib.hid (show numR l = .tuple #[.int .i64 n, strV (l.drop 2), .bool true] from by rw [HR.out, if_neg (fun h => by rcases h with h | h; omega; exact h48 (by rw [hb0]; exact h.2)), ← HN.out, hi0])
                   clear HR hb0
                   subst hi0
                   have q48 : ((b0.toNat : Int) == 48) = false := by rw [beq_eq_false_iff_ne]; omega
                   have q48n : (b0.toNat == 48) = false := by rw [beq_eq_false_iff_ne]; omega
                   go_wp2_with fail
                   go_quiet (fail)
                   go_wp2_with fail
                   go_ret3
                   exact ⟨by rw [HR0.out, HS1.out]; rfl, bdrewN (Below.refl _ _) _⟩)
      · have g2 : decide ((i : Int) < 2) = false := by rw [decide_eq_false_iff_not]; omega
        have g2n : decide (i < 2) = false := by rw [decide_eq_false_iff_not]; omega
        have hiL' : i ≤ l.length := by rw [← HLL.out]; exact hiL
        have HR := Lib.hid (numR_end hi2 hiL' HD.out (.inr (.inl (by omega))))
        clear hiL'
        rcases (show i = 0 ∨ i = 1 ∨ i = 2 by omega) with hi0 | hi0 | hi0
        · first
            | (exfalso; omega)
            | (have HR0 := Lib.hid (show numR l = .tuple #[.int .i64 0, strV l, .bool false] from by rw [HR.out, if_pos (.inl hi0)])
               clear HR
               subst hi0
               go_wp2_with fail
               go_ret3
               exact ⟨by rw [HR0.out, HS.out]; rfl, Below.refl _ _⟩)
        · first
            | (exfalso; omega)
            | (have HR0 := Lib.hid (show numR l = .tuple #[.int .i64 n, strV (l.drop 1), .bool true] from by rw [HR.out, if_neg (by omega), ← HN.out, hi0])
               clear HR
               subst hi0
               have hL1 : (1 : Int) ≤ L := by omega
               have hL1n : 1 ≤ L := by omega
               obtain ⟨s1, hs1⟩ : ∃ s1 : ByteArray, s1 = ⟨(l.drop 1).toArray⟩ := ⟨_, rfl⟩
               have hfr : s.extract 1 L = s1 := by have := HF.out 1; rw [hsz, ← hs1] at this; exact this
               have HS1 := Lib.hid hs1
               clear hs1
               go_wp2_with fail
               go_quiet (fail)
               go_wp2_with fail
               go_ret3
               exact ⟨by rw [HR0.out, HS1.out]; rfl, bdrewN (Below.refl _ _) _⟩)
        · first
            | (exfalso; omega)
            | (have hL2 : (2 : Int) ≤ L := by omega
               have hL2n : 2 ≤ L := by omega
               have hL0 : 0 < L := by omega
               have hL0' : (0 : Int) < L := by omega
               obtain ⟨b0, hb0⟩ : ∃ b0, b0 = l.getD 0 0 := ⟨_, rfl⟩
               have hx0 : ∀ h, s[0]'h = b0 := fun h => (HG.out 0 hL0 h).trans hb0.symm
               obtain ⟨s1, hs1⟩ : ∃ s1 : ByteArray, s1 = ⟨(l.drop 2).toArray⟩ := ⟨_, rfl⟩
               have hfr : s.extract 2 L = s1 := by have := HF.out 2; rw [hsz, ← hs1] at this; exact this
               have HS1 := Lib.hid hs1
               clear hs1
               by_cases h48 : b0.toNat = 48
               · have HR0 := Lib.hid (show numR l = .tuple #[.int .i64 0, strV l, .bool false] from by rw [HR.out, if_pos (.inr ⟨hi0, by rw [← hb0]; exact h48⟩)])
                 clear HR hb0
                 subst hi0
                 have q48 : ((b0.toNat : Int) == 48) = true := by rw [beq_iff_eq]; omega
                 go_wp2_with fail
                 go_ret3
                 exact ⟨by rw [HR0.out, HS.out]; rfl, Below.refl _ _⟩
               · have HR0 := Lib.hid (show numR l = .tuple #[.int .i64 n, strV (l.drop 2), .bool true] from by rw [HR.out, if_neg (fun h => by rcases h with h | h; omega; exact h48 (by rw [hb0]; exact h.2)), ← HN.out, hi0])
                 clear HR hb0
                 subst hi0
                 have q48 : ((b0.toNat : Int) == 48) = false := by rw [beq_eq_false_iff_ne]; omega
                 have q48n : (b0.toNat == 48) = false := by rw [beq_eq_false_iff_ne]; omega
                 go_wp2_with fail
                 go_quiet (fail)
                 go_wp2_with fail
                 go_ret3
                 exact ⟨by rw [HR0.out, HS1.out]; rfl, bdrewN (Below.refl _ _) _⟩)
    · have g1 : decide ((i : Int) < L) = false := by rw [decide_eq_false_iff_not]; omega
      have g1n : decide (i < L) = false := by rw [decide_eq_false_iff_not]; omega
      have hiL' : i ≤ l.length := by rw [← HLL.out]; exact hiL
      have HR := Lib.hid (numR_end hi2 hiL' HD.out (.inl (by rw [← HLL.out]; omega)))
      clear hiL'
      rcases (show i = 0 ∨ i = 1 ∨ i = 2 by omega) with hi0 | hi0 | hi0
      · first
          | (exfalso; omega)
          | (have HR0 := Lib.hid (show numR l = .tuple #[.int .i64 0, strV l, .bool false] from by rw [HR.out, if_pos (.inl hi0)])
             clear HR
             subst hi0
             go_wp2_with fail
             go_ret3
             exact ⟨by rw [HR0.out, HS.out]; rfl, Below.refl _ _⟩)
      · first
          | (exfalso; omega)
          | (have HR0 := Lib.hid (show numR l = .tuple #[.int .i64 n, strV (l.drop 1), .bool true] from by rw [HR.out, if_neg (by omega), ← HN.out, hi0])
             clear HR
             subst hi0
             have hL1 : (1 : Int) ≤ L := by omega
             have hL1n : 1 ≤ L := by omega
             obtain ⟨s1, hs1⟩ : ∃ s1 : ByteArray, s1 = ⟨(l.drop 1).toArray⟩ := ⟨_, rfl⟩
             have hfr : s.extract 1 L = s1 := by have := HF.out 1; rw [hsz, ← hs1] at this; exact this
             have HS1 := Lib.hid hs1
             clear hs1
             go_wp2_with fail
             go_quiet (fail)
             go_wp2_with fail
             go_ret3
             exact ⟨by rw [HR0.out, HS1.out]; rfl, bdrewN (Below.refl _ _) _⟩)
      · first
          | (exfalso; omega)
          | (have hL2 : (2 : Int) ≤ L := by omega
             have hL2n : 2 ≤ L := by omega
             have hL0 : 0 < L := by omega
             have hL0' : (0 : Int) < L := by omega
             obtain ⟨b0, hb0⟩ : ∃ b0, b0 = l.getD 0 0 := ⟨_, rfl⟩
             have hx0 : ∀ h, s[0]'h = b0 := fun h => (HG.out 0 hL0 h).trans hb0.symm
             obtain ⟨s1, hs1⟩ : ∃ s1 : ByteArray, s1 = ⟨(l.drop 2).toArray⟩ := ⟨_, rfl⟩
             have hfr : s.extract 2 L = s1 := by have := HF.out 2; rw [hsz, ← hs1] at this; exact this
             have HS1 := Lib.hid hs1
             clear hs1
             by_cases h48 : b0.toNat = 48
             · have HR0 := Lib.hid (show numR l = .tuple #[.int .i64 0, strV l, .bool false] from by rw [HR.out, if_pos (.inr ⟨hi0, by rw [← hb0]; exact h48⟩)])
               clear HR hb0
               subst hi0
               have q48 : ((b0.toNat : Int) == 48) = true := by rw [beq_iff_eq]; omega
               go_wp2_with fail
               go_ret3
               exact ⟨by rw [HR0.out, HS.out]; rfl, Below.refl _ _⟩
             · have HR0 := Lib.hid (show numR l = .tuple #[.int .i64 n, strV (l.drop 2), .bool true] from by rw [HR.out, if_neg (fun h => by rcases h with h | h; omega; exact h48 (by rw [hb0]; exact h.2)), ← HN.out, hi0])
               clear HR hb0
               subst hi0
               have q48 : ((b0.toNat : Int) == 48) = false := by rw [beq_eq_false_iff_ne]; omega
               have q48n : (b0.toNat == 48) = false := by rw [beq_eq_false_iff_ne]; omega
               go_wp2_with fail
               go_quiet (fail)
               go_wp2_with fail
               go_ret3
               exact ⟨by rw [HR0.out, HS1.out]; rfl, bdrewN (Below.refl _ _) _⟩)
end Go.Proofs.YtmieioaklgdbdaaDoor
