/- Contracts (beside configurations) of the functions of package ops and garrisonref16 that tell forms. -/
import Derived.Test.YtapcbfeifeobhaaOpsB
import Derived.Lib.Strings
set_option linter.unusedVariables false
namespace Go.Proofs.Ytapcbfeifeobhaa
open Go.RowKit

/-- The forms of the forty numbers; 9: there is no such instruction. -/
def formTab : List Nat := [9, 2, 5, 5, 5, 3, 3, 3, 3, 3, 3, 3, 3, 3, 3, 3, 3, 3, 3, 3, 3, 4, 4, 4, 4, 4, 4, 4, 4, 4, 6, 5, 5, 6, 0, 1, 7, 2, 2, 8]
def formOf (o : Nat) : Nat := formTab.getD o 9
theorem formOf_hi (o : Nat) (h : 40 ≤ o) : formOf o = 9 := by
  have h' : formTab.length ≤ o := h
  simp [formOf, List.getD_eq_getElem?_getD, List.getElem?_eq_none h']
theorem formOf_le : ∀ o, o < 40 → 1 ≤ o → formOf o ≤ 8 := by decide

/-- What ops.Of gives. -/
def ofVal (f : Nat) : Value := .tuple #[.int .u8 (if f < 9 then (f : Int) else 0), .bool (decide (f < 9))]

set_option maxRecDepth 100000 in
set_option maxHeartbeats 4000000 in
theorem opsOf_any (o : Int) (h0 : 0 ≤ o) (h1 : o ≤ 255) (w : World) :
    Calls Try.prog 41 #[.int .u8 o] w fun e w' => e = .returned (ofVal (formOf o.toNat)) ∧ Below w.heap.size w w' := by
  go_enter Try.func41, Try.ntmps41
  go_wp2
  all_goals simp only [beq_iff_eq, beq_eq_false_iff_ne, ne_eq] at *
  all_goals first
    | (subst_vars; exact bodyPost_ret (results_tmp2 rfl _ _ _) rfl ⟨rfl, Below.refl _ _⟩)
    | (refine bodyPost_ret (results_tmp2 rfl _ _ _) rfl ⟨?_, Below.refl _ _⟩
       have h : o = 0 ∨ 40 ≤ o := by omega
       rcases h with rfl | h
       · rfl
       · rw [formOf_hi _ (by omega)]; rfl)

/-- Whether a text is one of others, with blanks between: from place f on, at place i. -/
def inLoop (s l : List UInt8) : Nat → Nat → Nat → Bool
  | 0, _, _ => false
  | n + 1, f, i => if i = l.length ∨ l[i]? = some 32 then (if (l.drop f).take (i - f) = s then true else inLoop s l n (i + 1) (i + 1)) else inLoop s l n f (i + 1)
def inTxt (s l : List UInt8) : Bool := inLoop s l (l.length + 1) 0 0

theorem inLoop_hit {s l : List UInt8} {n f k : Nat} (hk : k = l.length ∨ l[k]? = some 32) (he : (l.drop f).take (k - f) = s) : inLoop s l (n + 1) f k = true := by
  rw [inLoop, if_pos hk, if_pos he]
theorem inLoop_miss {s l : List UInt8} {n f k : Nat} (hk : k = l.length ∨ l[k]? = some 32) (he : (l.drop f).take (k - f) ≠ s) : inLoop s l (n + 1) f k = inLoop s l n (k + 1) (k + 1) := by
  rw [inLoop, if_pos hk, if_neg he]
theorem inLoop_on {s l : List UInt8} {n f k : Nat} (hk : ¬ (k = l.length ∨ l[k]? = some 32)) : inLoop s l (n + 1) f k = inLoop s l n f (k + 1) := by
  rw [inLoop, if_neg hk]
theorem piece_eq {s l : ByteArray} {f k : Nat} (h : ((l.extract f k).toList == s.toList) = true) : (l.data.toList.drop f).take (k - f) = s.data.toList := by
  rw [← Lib.extract_data, show l.extract f k = s from bytes_eq (by simpa using h)]
theorem piece_ne {s l : ByteArray} {f k : Nat} (h : ((l.extract f k).toList == s.toList) = false) : (l.data.toList.drop f).take (k - f) ≠ s.data.toList := by
  intro he
  rw [← Lib.extract_data] at he
  have : l.extract f k = s := by
    rcases hx : l.extract f k with ⟨d⟩
    rcases s with ⟨d'⟩
    rw [hx] at he
    simp at he
    rw [he]
  rw [this] at h
  simp at h
theorem byte_at {l : ByteArray} {k : Nat} (hk : k < l.size) : l.data.toList[k]? = some l[k] := by
  have : k < l.data.toList.length := by simpa using hk
  rw [List.getElem?_eq_getElem this]; rfl
theorem byte_32 {b : UInt8} : ((b.toNat : Int) == 32) = decide (b = 32) := by
  rw [Bool.eq_iff_iff]
  simp only [beq_iff_eq, decide_eq_true_eq]
  constructor
  · intro h
    exact UInt8.toNat_inj.1 (by simpa using (by omega : b.toNat = 32))
  · rintro rfl; rfl

set_option maxHeartbeats 1000000 in
theorem refIn_any (s l : ByteArray) (hl : l.size ≤ 1000) (w : World) :
    Calls Try.prog 23 #[.string s, .string l] w fun e w' => e = .returned (.bool (inTxt s.data.toList l.data.toList)) ∧ w = w' := by
  go_enter Try.func23, Try.ntmps23
  go_wp2
  go_loop [4, 5, 6] (fun r fr i => ∃ f k : Nat, f ≤ k ∧ k ≤ l.size + 1 ∧ r = .bool false ∧ fr = .int .i64 f ∧ i = .int .i64 k ∧ inTxt s.data.toList l.data.toList = inLoop s.data.toList l.data.toList (l.size + 1 - k) f k) (fun _ _ i => l.size + 1 - (intOf i).toNat)
  case atStart => exact ⟨0, 0, by omega, by omega, rfl, rfl, rfl, rfl⟩
  case round =>
    obtain ⟨f, k, hf, hk, rfl, rfl, rfl, hin⟩ := hrel
    have hlen : l.data.toList.length = l.size := by simp
    by_cases hlt : k < l.size
    · have hb := byte_at hlt
      rw [show l.size + 1 - k = (l.size - k) + 1 by omega] at hin
      have HI := Lib.hid hin
      have HB := Lib.hid hb
      have HL := Lib.hid hlen
      clear hin hb hlen
      go_wp2
      · have hx : ((l.extract f k).toList == s.toList) = true := by assumption
        have hor : ((k : Int) == (l.size : Int)) = true ∨ ((l[k].toNat : Int) == 32) = true := by assumption
        go_ret
        refine ⟨ret_bool ?_, rfl⟩
        rw [HI.out, inLoop_hit (.inr ?_) (piece_eq hx)]
        rw [HB.out]
        rcases hor with h | h
        · simp at h; omega
        · rw [byte_32] at h; simpa using h
      · have hx : ((l.extract f k).toList == s.toList) = false := by assumption
        have hor : ((k : Int) == (l.size : Int)) = true ∨ ((l[k].toNat : Int) == 32) = true := by assumption
        go_round
        case rel =>
          refine ⟨k + 1, k + 1, by omega, by omega, rfl, by go_num, by go_num, ?_⟩
          rw [HI.out, inLoop_miss (.inr ?_) (piece_ne hx)]
          · congr 1; omega
          · rw [HB.out]
            rcases hor with h | h
            · simp at h; omega
            · rw [byte_32] at h; simpa using h
        case measure => simp [intOf]; omega
      · have hor : ((k : Int) == (l.size : Int)) = false ∧ ((l[k].toNat : Int) == 32) = false := by assumption
        go_round
        case rel =>
          refine ⟨f, k + 1, by omega, by omega, rfl, rfl, by go_num, ?_⟩
          rw [HI.out, inLoop_on ?_]
          · congr 1; omega
          · rw [HB.out, HL.out]
            rintro (h | h)
            · omega
            · have h2 := hor.2
              rw [byte_32] at h2
              simp at h h2
              exact h2 h
        case measure => simp [intOf]; omega
    · rcases Nat.lt_or_ge l.size k with hgt | hle
      · obtain rfl : k = l.size + 1 := by omega
        have HI := Lib.hid hin
        clear hin hlen
        go_wp2
        go_ret
        exact ⟨ret_bool (by rw [HI.out]; simp [inLoop]), rfl⟩
      · obtain rfl : k = l.size := by omega
        rw [show l.size + 1 - l.size = 0 + 1 by omega] at hin
        have HI := Lib.hid hin
        have HL := Lib.hid hlen
        clear hin hlen
        go_wp2
        · have hx : ((l.extract f l.size).toList == s.toList) = true := by assumption
          go_ret
          exact ⟨ret_bool (by rw [HI.out, inLoop_hit (.inl HL.out.symm) (piece_eq hx)]), rfl⟩
        · have hx : ((l.extract f l.size).toList == s.toList) = false := by assumption
          go_round
          case rel => exact ⟨l.size + 1, l.size + 1, by omega, by omega, rfl, by go_num, by go_num, by rw [HI.out, inLoop_miss (.inl HL.out.symm) (piece_ne hx)]; simp⟩
          case measure => simp [intOf]

/-- Of the first so many of three numbers each is less than sixteen. -/
def regsB (x y z : Int) (n : Nat) : Bool := [x, y, z].take n |>.all (fun v => decide (v < 16))
set_option maxHeartbeats 1000000 in
theorem opsRegs_any (o x y z : Int) (hx : 0 ≤ x ∧ x ≤ 255) (hy : 0 ≤ y ∧ y ≤ 255) (hz : 0 ≤ z ∧ z ≤ 255) (n : Nat) (hn : n ≤ 3) (w : World) :
    Calls Try.prog 56 #[.agg #[.int .u8 o, .int .u8 x, .int .u8 y, .int .u8 z], .int .i64 n] w fun e w' => e = .returned (.bool (regsB x y z n)) ∧ Below w.heap.size w w' := by
  obtain ⟨hx0, hx1⟩ := hx
  obtain ⟨hy0, hy1⟩ := hy
  obtain ⟨hz0, hz1⟩ := hz
  go_enter Try.func56, Try.ntmps56
  go_wp2
  go_loop [4, 6, 15] (fun r u i => ∃ k : Nat, k ≤ n ∧ r = .bool false ∧ i = .int .i64 k ∧ (0 < k → x < 16) ∧ (1 < k → y < 16) ∧ (2 < k → z < 16)) (fun _ _ i => n - (intOf i).toNat)
  case atStart => exact ⟨0, by omega, rfl, rfl, by omega, by omega, by omega⟩
  case round =>
    obtain ⟨k, hk, rfl, rfl, h0, h1, h2⟩ := hrel
    by_cases hlt : k < n
    · have hc : k = 0 ∨ k = 1 ∨ k = 2 := by omega
      rcases hc with rfl | rfl | rfl
      · have n0 : (0 : Int) < n := by omega
        go_wp2
        · go_ret
          exact ⟨ret_bool (by have : ¬ x < 16 := by omega
                              rcases n with _ | n
                              · omega
                              · simp [regsB]; omega), ((Below.refl _ _).alloc (Nat.le_refl _) _).alloc (by simp) _⟩
        · go_round
          case rel => exact ⟨1, by omega, rfl, by go_num, by omega, by omega, by omega⟩
          case measure => simp [intOf]; omega
      · have n0 : (1 : Int) < n := by omega
        go_wp2
        · go_ret
          exact ⟨ret_bool (by have : ¬ y < 16 := by omega
                              rcases n with _ | _ | n
                              · omega
                              · omega
                              · simp [regsB]; omega), ((Below.refl _ _).alloc (Nat.le_refl _) _).alloc (by simp) _⟩
        · go_round
          case rel => exact ⟨2, by omega, rfl, by go_num, by omega, by omega, by omega⟩
          case measure => simp [intOf]; omega
      · have n0 : (2 : Int) < n := by omega
        obtain rfl : n = 3 := by omega
        go_wp2
        · go_ret
          exact ⟨ret_bool (by have : ¬ z < 16 := by omega
                              simp [regsB]; omega), ((Below.refl _ _).alloc (Nat.le_refl _) _).alloc (by simp) _⟩
        · go_round
          case rel => exact ⟨3, by omega, rfl, by go_num, by omega, by omega, by omega⟩
          case measure => simp [intOf]
    · go_wp2
      go_ret
      refine ⟨ret_bool ?_, ((Below.refl _ _).alloc (Nat.le_refl _) _).alloc (by simp) _⟩
      obtain rfl : k = n := by omega
      have hc : k = 0 ∨ k = 1 ∨ k = 2 ∨ k = 3 := by omega
      rcases hc with rfl | rfl | rfl | rfl <;> simp [regsB] <;> omega

theorem opsRegs_int (o x y z m : Int) (hx : 0 ≤ x ∧ x ≤ 255) (hy : 0 ≤ y ∧ y ≤ 255) (hz : 0 ≤ z ∧ z ≤ 255) (h0 : 0 ≤ m) (hm : m ≤ 3) (w : World) :
    Calls Try.prog 56 #[.agg #[.int .u8 o, .int .u8 x, .int .u8 y, .int .u8 z], .int .i64 m] w fun e w' => e = .returned (.bool (regsB x y z m.toNat)) ∧ Below w.heap.size w w' := by
  obtain ⟨n, rfl⟩ := Int.eq_ofNat_of_zero_le h0
  exact opsRegs_any o x y z hx hy hz n (by omega) w

/-- What the document's form of a name is. -/
def refForm (s : List UInt8) : Int :=
  if s = [114, 101, 116] then 0 else if s = [106, 114] then 1 else if inTxt s [109, 111, 118, 32, 99, 108, 122, 32, 112, 111, 112] then 2
  else if inTxt s [97, 100, 100, 105, 32, 108, 98, 32, 108, 98, 115, 32, 108, 104, 32, 108, 104, 115, 32, 108, 119, 32, 115, 98, 32, 115, 104, 32, 115, 119] then 4
  else if inTxt s [108, 100, 105, 32, 108, 100, 115, 32, 108, 117, 105, 32, 106, 122, 32, 106, 110, 122] then 5 else if inTxt s [106, 109, 112, 32, 99, 97, 108, 108] then 6
  else if s = [101, 120, 116] then 7 else if s = [115, 121, 115] then 8 else 3
theorem refForm_is : ∀ o, o < 40 → 1 ≤ o → refForm (opName o).data.toList = formOf o := by decide +kernel

set_option maxHeartbeats 1000000 in
theorem refForm_in (o : Int) (h0 : 1 ≤ o) (h1 : o ≤ 39) (w : World) :
    Calls Try.prog 9 #[.int .i64 o] w fun e w' => e = .returned (.int .i64 (formOf o.toNat)) ∧ Below w.heap.size w w' := by
  have hn : nameVals[o.toNat]? = some (.string (opName o.toNat)) := nameVals_at _ (by omega)
  have HF := Lib.hid (refForm_is o.toNat (by omega) (by omega))
  go_enter Try.func9, Try.ntmps9
  go_wp2_with (first
    | (go_at_call 22; refine (refNames_any _).mono ?_; rintro e w1 ⟨rfl, rfl⟩)
    | (go_at_call 23; refine (refIn_any _ _ (by decide) _).mono ?_; rintro e w1 ⟨rfl, rfl⟩))
  all_goals
    go_ret
    refine ⟨ret_int ?_, bnew w _⟩
    rw [← HF.out]
    simp only [ByteArray.toList_eq, beq_iff_eq, beq_eq_false_iff_ne, ne_eq] at *
    simp only [refForm, *]
    first | rfl | decide +kernel | (simp; done)

theorem refForm_out (o : Int) (h : o < 1 ∨ 39 < o) (w : World) :
    Calls Try.prog 9 #[.int .i64 o] w fun e w' => e = .returned (.int .i64 (-1)) ∧ w = w' := by
  rcases h with h | h
  · go_enter Try.func9, Try.ntmps9
    go_wp2
    go_ret
    exact ⟨rfl, rfl⟩
  · have h' : ¬ o < 1 := by omega
    go_enter Try.func9, Try.ntmps9
    go_wp2
    go_ret
    exact ⟨rfl, rfl⟩

/-- Of a form: whether the three bytes are right. -/
def checkOk (f : Nat) (x y z : Int) : Bool :=
  match f with
  | 0 => decide (x = 0) && decide (y = 0) && decide (z = 0)
  | 1 => decide (x < 16) && decide (y = 0) && decide (z = 0)
  | 2 => decide (x < 16) && decide (y < 16) && decide (z = 0)
  | 3 => decide (x < 16) && decide (y < 16) && decide (z < 16)
  | 4 => decide (x < 16) && decide (y < 16)
  | 5 => decide (x < 16)
  | 6 => decide (x = 0)
  | 7 => decide (x < 16) && decide (y < 16) && (decide (z = 8) || decide (z = 16))
  | _ => decide (x = 0) && decide (z = 0)
/-- The error's number. -/
def checkI (f : Nat) (x y z : Int) : Int := if 8 < f then 32 else if checkOk f x y z then 0 else 28

set_option maxRecDepth 100000 in
set_option maxHeartbeats 4000000 in
theorem opsCheck_any (o x y z : Int) (ho : 0 ≤ o ∧ o ≤ 255) (hx : 0 ≤ x ∧ x ≤ 255) (hy : 0 ≤ y ∧ y ≤ 255) (hz : 0 ≤ z ∧ z ≤ 255) (w : World) :
    Calls Try.prog 40 #[.agg #[.int .u8 o, .int .u8 x, .int .u8 y, .int .u8 z]] w fun e w' => e = .returned (.int .i64 (checkI (formOf o.toNat) x y z)) ∧ Below w.heap.size w w' := by
  have hf : formOf o.toNat ≤ 9 := by
    rcases Nat.lt_or_ge o.toNat 40 with h | h
    · exact (by decide : ∀ n, n < 40 → formOf n ≤ 9) _ h
    · rw [formOf_hi _ h]; omega
  have HC := Lib.hid (@opsOf_any o ho.1 ho.2)
  generalize hfe : formOf o.toNat = f at hf HC ⊢
  clear hfe
  have hc : f = 0 ∨ f = 1 ∨ f = 2 ∨ f = 3 ∨ f = 4 ∨ f = 5 ∨ f = 6 ∨ f = 7 ∨ f = 8 ∨ f = 9 := by omega
  rcases hc with rfl | rfl | rfl | rfl | rfl | rfl | rfl | rfl | rfl | rfl
  all_goals
    go_enter Try.func40, Try.ntmps40
    go_wp2_with (first
      | (go_at_call 41; refine (HC.out _).mono ?_; rintro e w1 ⟨rfl, hb1⟩; simp only [ofVal]; have B1 := bkeep hb1 (heap_alloc_last w _); have C1 := rowcell B1)
      | (go_at_call 56; refine (opsRegs_int _ _ _ _ _ hx hy hz (by omega) (by omega) _).mono ?_; rintro e w2 ⟨rfl, hb2⟩; have B2 := bkeep hb2 B1; have C2 := rowcell B2))
  all_goals clear HC
  all_goals
    go_ret
    refine ⟨ret_int ?_, ?_⟩
  all_goals first
    | (have hw := bnext (bnew w _) hb1; first | exact bnext hw hb2 | exact hw)
    | skip
  all_goals simp only [checkI, checkOk, regsB, Bool.not_eq_true', Bool.not_eq_false', List.take, List.all, Bool.and_true, Bool.and_eq_true, Bool.and_eq_false_iff, decide_eq_true_eq, decide_eq_false_iff_not, beq_iff_eq, beq_eq_false_iff_ne, ne_eq] at *
  all_goals simp [*] <;> omega

end Go.Proofs.Ytapcbfeifeobhaa
