/- Labels as texts: the plain law of lists and of Parse. -/
import Derived.Test.YtmieioaklgdbdaaDoorLabU
set_option linter.unusedVariables false
set_option linter.unusedSimpArgs false
namespace Go.Proofs.YtmieioaklgdbdaaDoor
open Go.RowKit

theorem dig8 {k : Nat} (h : k < 256) : (UInt8.ofNat k).toNat = k := by
  rw [UInt8.toNat_ofNat']; omega
theorem digL_one {n : Nat} (h : n ≤ 9) : digL n = [UInt8.ofNat (48 + n)] := by
  rw [digL, dif_neg (by omega)]
theorem digL_two {n : Nat} (h : 10 ≤ n) (h2 : n ≤ 99) : digL n = [UInt8.ofNat (48 + n / 10), UInt8.ofNat (48 + n % 10)] := by
  rw [digL, dif_pos (by omega), digL_one (by omega), digL_one (by omega)]
  rfl
theorem digL_three {n : Nat} (h : 100 ≤ n) (h2 : n ≤ 999) : digL n = [UInt8.ofNat (48 + n / 100), UInt8.ofNat (48 + n / 10 % 10), UInt8.ofNat (48 + n % 10)] := by
  rw [digL, dif_pos (by omega), digL_two (by omega) (by omega), digL_one (n := n % 10) (by omega), show n / 10 / 10 = n / 100 by omega]
  rfl
theorem dig_of (k : Nat) (h : k ≤ 9) : isDig (UInt8.ofNat (48 + k)) := by
  unfold isDig; rw [dig8 (by omega)]; omega
theorem dig_back {a : UInt8} (h : isDig a) : UInt8.ofNat (48 + (a.toNat - 48)) = a := by
  unfold isDig at h
  rw [show 48 + (a.toNat - 48) = a.toNat by omega]
  exact UInt8.ofNat_toNat
theorem numL_back {l : List UInt8} {c : Nat} {r : List UInt8} (h : numL l = some (c, r)) : l = digL c ++ r ∧ c ≤ 99 ∧ r.length < l.length := by
  match l, h with
  | [], h => simp [numL] at h
  | [a], h =>
    simp only [numL] at h
    split at h
    · next hd =>
      obtain ⟨rfl, rfl⟩ : a.toNat - 48 = c ∧ [] = r := by simpa using h
      have hd' := hd
      unfold isDig at hd'
      rw [digL_one (by omega), dig_back hd]
      exact ⟨rfl, by omega, by simp⟩
    · cases h
  | a :: b :: u, h =>
    simp only [numL] at h
    split at h
    · next hd =>
      have hd' := hd
      unfold isDig at hd'
      split at h
      · next hb =>
        have hb' := hb
        unfold isDig at hb'
        split at h
        · cases h
        · next h48 =>
          obtain ⟨rfl, rfl⟩ : (a.toNat - 48) * 10 + (b.toNat - 48) = c ∧ u = r := by simpa using h
          rw [digL_two (by omega) (by omega), show ((a.toNat - 48) * 10 + (b.toNat - 48)) / 10 = a.toNat - 48 by omega, show ((a.toNat - 48) * 10 + (b.toNat - 48)) % 10 = b.toNat - 48 by omega, dig_back hd, dig_back hb]
          exact ⟨rfl, by omega, by simp; omega⟩
      · obtain ⟨rfl, rfl⟩ : a.toNat - 48 = c ∧ b :: u = r := by simpa using h
        rw [digL_one (by omega), dig_back hd]
        exact ⟨rfl, by omega, by simp⟩
    · cases h
theorem numL_sep {c : Nat} (hc : c ≤ 99) : ∀ {r : List UInt8}, (∀ b u, r = b :: u → ¬ isDig b) → numL (digL c ++ r) = some (c, r) := by
  intro r hr
  by_cases h : c ≤ 9
  · rw [digL_one h]
    have hd := dig_of c h
    cases r with
    | nil => simp only [List.append_nil, numL]; rw [if_pos hd, dig8 (by omega), Nat.add_sub_cancel_left]
    | cons b u =>
      show numL (UInt8.ofNat (48 + c) :: b :: u) = _
      simp only [numL]
      rw [if_pos hd, if_neg (hr b u rfl), dig8 (by omega), Nat.add_sub_cancel_left]
  · rw [digL_two (by omega) hc]
    have h1 := dig_of (c / 10) (by omega)
    have h2 := dig_of (c % 10) (by omega)
    show numL (UInt8.ofNat (48 + c / 10) :: UInt8.ofNat (48 + c % 10) :: r) = _
    simp only [numL]
    rw [if_pos h1, if_pos h2, dig8 (by omega), dig8 (by omega), if_neg (by omega)]
    congr 2
    omega
theorem numL_one {c : Nat} (hc : c ≤ 99) : numL (digL c) = some (c, []) := by
  have := numL_sep hc (r := []) (by simp)
  rwa [List.append_nil] at this

/-- Rising numbers with commas between, all above one. -/
def listL (l : List UInt8) (a : Int) : Option (List Nat) :=
  match h : numL l with
  | none => none
  | some (c, []) => if (c : Int) ≤ a then none else some [c]
  | some (c, b :: u) => if (c : Int) ≤ a then none else if b = 44 then (listL u c).map (c :: ·) else none
termination_by l.length
decreasing_by
  have := (numL_back h).2.2
  simp only [List.length_cons] at this
  omega
theorem listL_none {l : List UInt8} {a : Int} (h : numL l = none) : listL l a = none := by
  rw [listL]
  split
  · rfl
  · next c h' => rw [h] at h'; cases h'
  · next c b u h' => rw [h] at h'; cases h'
theorem listL_low {l : List UInt8} {a : Int} {c r} (h : numL l = some (c, r)) (hc : (c : Int) ≤ a) : listL l a = none := by
  rw [listL]
  split
  · rfl
  · next c' h' => rw [h] at h'; cases h'; rw [if_pos hc]
  · next c' b u h' => rw [h] at h'; cases h'; rw [if_pos hc]
theorem listL_end {l : List UInt8} {a : Int} {c} (h : numL l = some (c, [])) (hc : a < (c : Int)) : listL l a = some [c] := by
  rw [listL]
  split
  · next h' => rw [h] at h'; cases h'
  · next c' h' => rw [h] at h'; cases h'; rw [if_neg (by omega)]
  · next c' b u h' => rw [h] at h'; cases h'
theorem listL_more {l : List UInt8} {a : Int} {c u} (h : numL l = some (c, 44 :: u)) (hc : a < (c : Int)) : listL l a = (listL u c).map (c :: ·) := by
  rw [listL]
  split
  · next h' => rw [h] at h'; cases h'
  · next c' h' => rw [h] at h'; cases h'
  · next c' b u h' => rw [h] at h'; cases h'; rw [if_neg (by omega), if_pos rfl]
theorem listL_bad {l : List UInt8} {a : Int} {c b u} (h : numL l = some (c, b :: u)) (hb : b ≠ 44) : listL l a = none := by
  rw [listL]
  split
  · next h' => rw [h] at h'
  · next c' h' => rw [h] at h'; cases h'
  · next c' b u h' => rw [h] at h'; cases h'; rw [if_neg hb]; split <;> rfl

def intsI (l : List Nat) : List Int := l.map fun (j : Nat) => (j : Int)
def mkR (lv : Nat) (cs : List Nat) : (Nat × Nat) × Int := if lv ≤ 15 ∧ ∀ c ∈ cs, c < 16 then ((lv, orAll (intsI cs)), 0) else ((0, 0), 27)
def badR : (Nat × Nat) × Int := ((0, 0), 28)
/-- What is answered when so much has been read. -/
def restR (lv : Nat) (cats : List Nat) (a : Int) (sg : UInt8) : List UInt8 → (Nat × Nat) × Int
  | [] => mkR lv cats
  | b :: u => if b = sg then (match listL u a with | none => badR | some cs => mkR lv (cats ++ cs)) else badR
/-- A text as a label. -/
def parseR (l : List UInt8) : (Nat × Nat) × Int :=
  match numL l with
  | none => badR
  | some (lv, r) => restR lv [] (-1) 58 r
theorem restR_bad {lv cats a sg b u} (h : b ≠ sg) : restR lv cats a sg (b :: u) = badR := by
  rw [restR, if_neg h]
theorem restR_none {lv cats a sg u} (h : numL u = none) : restR lv cats a sg (sg :: u) = badR := by
  rw [restR, if_pos rfl, listL_none h]
theorem restR_low {lv cats a sg u c r} (h : numL u = some (c, r)) (hc : (c : Int) ≤ a) : restR lv cats a sg (sg :: u) = badR := by
  rw [restR, if_pos rfl, listL_low h hc]
theorem restR_next {lv cats a sg u c r} (h : numL u = some (c, r)) (hc : a < (c : Int)) : restR lv cats a sg (sg :: u) = restR lv (cats ++ [c]) c 44 r := by
  rw [restR, if_pos rfl]
  cases r with
  | nil => rw [listL_end h hc, restR]
  | cons b u' =>
    by_cases hb : b = 44
    · subst hb
      rw [listL_more h hc, restR, if_pos rfl]
      cases listL u' (c : Int) with
      | none => rfl
      | some cs => simp only [Option.map_some, List.append_assoc, List.singleton_append]
    · rw [listL_bad h hb, restR, if_neg hb]

theorem listL_cats : ∀ (cs : List Nat) (c : Nat) (a : Int), a < (c : Int) → (c :: cs).Pairwise (· < ·) → (∀ d ∈ c :: cs, d < 100) → listL (digL c ++ catsText false cs) a = some (c :: cs)
  | [], c, a, hc, _, hl => by
    rw [catsText, List.append_nil]
    exact listL_end (numL_one (by have := hl c (by simp); omega)) hc
  | d :: cs, c, a, hc, hp, hl => by
    have hs : catsText false (d :: cs) = 44 :: (digL d ++ catsText false cs) := rfl
    rw [hs]
    have h1 := numL_sep (c := c) (by have := hl c (by simp); omega) (r := 44 :: (digL d ++ catsText false cs)) (by
      intro b u h
      obtain ⟨rfl, _⟩ := List.cons.inj h
      decide)
    rw [listL_more h1 hc, listL_cats cs d c (by have := (List.pairwise_cons.mp hp).1 d (by simp); omega) (List.pairwise_cons.mp hp).2 (fun e he => hl e (by simp [he]))]
    rfl
theorem catsL_pair (x : Nat) : (catsL x).Pairwise (· < ·) := by
  unfold catsL
  exact List.Pairwise.filter _ List.pairwise_lt_range
theorem orAll_test : ∀ (cs : List Nat) (o j : Nat), ((intsI cs).foldl orCat o).testBit j = (o.testBit j || decide (j ∈ cs))
  | [], o, j => by simp [intsI]
  | c :: cs, o, j => by
    rw [show intsI (c :: cs) = (c : Int) :: intsI cs from rfl, List.foldl_cons, orAll_test cs]
    unfold orCat
    rw [Nat.testBit_or, Int.toNat_natCast, Nat.testBit_two_pow]
    by_cases h : c = j
    · subst h; simp
    · have h' : ¬ j = c := fun e => h e.symm
      simp [h, h']
theorem orAll_cats {x : Nat} (hx : x < 65536) : orAll (intsI (catsL x)) = x := by
  unfold orAll
  refine bits_eq ?_ hx ?_
  · refine orAll_lt _ 0 (by omega) ?_
    intro c hc
    obtain ⟨d, hd, rfl⟩ := List.mem_map.mp hc
    have := catsL_lt x d hd
    unfold catOk
    omega
  · intro j hj
    rw [orAll_test]
    simp [catsL, hj]
/-- A label's text, read again. -/
def wantR (p : Nat × Nat) : (Nat × Nat) × Int := if 99 < p.1 then badR else if 15 < p.1 then ((0, 0), 27) else (p, 0)
theorem parse_text (p : Nat × Nat) (hp : okL p) : parseR (textL p) = wantR p := by
  have h1 := hp.1
  have h2 := hp.2
  unfold wantR textL parseR
  by_cases h : 99 < p.1
  · rw [if_pos h, digL_three (by omega) (by omega)]
    have d1 := dig_of (p.1 / 100) (by omega)
    have d2 := dig_of (p.1 / 10 % 10) (by omega)
    show (match numL (UInt8.ofNat (48 + p.1 / 100) :: UInt8.ofNat (48 + p.1 / 10 % 10) :: (UInt8.ofNat (48 + p.1 % 10) :: catsText true (catsL p.2))) with | none => badR | some (lv, r) => restR lv [] (-1) 58 r) = badR
    simp only [numL]
    rw [if_pos d1, if_pos d2, dig8 (by omega), if_neg (by omega)]
    show restR _ [] (-1) 58 (UInt8.ofNat (48 + p.1 % 10) :: _) = badR
    refine restR_bad ?_
    intro e
    have := congrArg UInt8.toNat e
    rw [dig8 (by omega)] at this
    have h58 : (58 : UInt8).toNat = 58 := rfl
    omega
  · rw [if_neg h]
    have hm : mkR p.1 (catsL p.2) = if 15 < p.1 then ((0, 0), 27) else (p, 0) := by
      unfold mkR
      by_cases h15 : 15 < p.1
      · rw [if_neg (fun h => by omega), if_pos h15]
      · rw [if_pos ⟨by omega, catsL_lt p.2⟩, if_neg h15, orAll_cats h2]
    rw [← hm]
    cases hcs : catsL p.2 with
    | nil => rw [catsText, List.append_nil, numL_one (by omega)]; rfl
    | cons c cs =>
      have hs : catsText true (c :: cs) = 58 :: (digL c ++ catsText false cs) := rfl
      rw [hs, numL_sep (by omega) (by intro b u h; obtain ⟨rfl, _⟩ := List.cons.inj h; decide)]
      show restR p.1 [] (-1) 58 (58 :: (digL c ++ catsText false cs)) = _
      rw [restR, if_pos rfl, listL_cats cs c (-1) (by omega) (by rw [← hcs]; exact catsL_pair _) (by intro d hd; rw [← hcs] at hd; have := catsL_lt _ d hd; omega)]
      rfl
end Go.Proofs.YtmieioaklgdbdaaDoor
