/- Sizes: the labels and marks of one (Size.Regs). -/
import Derived.Test.YtapcbfeifeobhaaConF
import Derived.Test.YtapcbfeifeobhaaGenF
import Derived.Deep.DeepCutAuto
set_option linter.unusedVariables false
set_option linter.unusedSimpArgs false
namespace Go.Proofs.Ytapcbfeifeobhaa
open Go.RowKit

theorem own_lower {w : World} {base base' : Nat} {e : TypeId} {size : Nat} {v : Value} {n : Nat} {xs : List Value} (h : w.ownsRow base e size v n xs) (hb : base' ≤ base) : w.ownsRow base' e size v n xs := by
  refine ⟨h.1, ?_⟩
  rcases h.2 with h1 | ⟨g0, c0, cur, hv, hb0, hrest⟩
  · exact .inl h1
  · exact .inr ⟨g0, c0, cur, hv, Nat.le_trans hb hb0, hrest⟩

/-- A size as a value. -/
def SizeV (w : World) (v : Value) (s : SizeL) : Prop :=
  ∃ X tv, v = .agg X ∧ X.size = 27 ∧ X[0]? = some (.int .u8 s.many) ∧ (∀ i, i < 25 → X[1 + i]? = some (.int .u8 (s.h i))) ∧ X[26]? = some tv ∧ SI w .u8 tv (s.trust.map fun (x : Nat) => (x : Int)) ∧ s.many ≤ 255 ∧ ∀ i, s.h i ≤ 255

def namesA : Array Value := #[.string ⟨#[108, 111, 119]⟩, .string ⟨#[114, 101, 100]⟩, .string ⟨#[98, 108, 117, 101]⟩, .string ⟨#[116, 111, 112]⟩, .string ⟨#[104, 105, 103, 104]⟩]
def labsA : Array Value := #[.int .u8 0, .int .u16 0, .int .u8 1, .int .u16 1, .int .u8 1, .int .u16 2, .int .u8 2, .int .u16 3, .int .u8 9, .int .u16 7]
theorem namesA_get : ∀ k, k < 5 → namesA[k]? = some (.string (nameAt k)) := by
  intro k hk
  have : k = 0 ∨ k = 1 ∨ k = 2 ∨ k = 3 ∨ k = 4 := by omega
  rcases this with rfl | rfl | rfl | rfl | rfl <;> rfl
theorem labsA_get : ∀ k, k < 5 → labsA[k * 2]? = some (.int .u8 (labAt k).1) ∧ labsA[k * 2 + 1]? = some (.int .u16 (labAt k).2) := by
  intro k hk
  have : k = 0 ∨ k = 1 ∨ k = 2 ∨ k = 3 ∨ k = 4 := by omega
  rcases this with rfl | rfl | rfl | rfl | rfl <;> exact ⟨rfl, rfl⟩
set_option maxHeartbeats 1000000 in
theorem sizeNames_in (w : World) : Calls Try.prog 72 #[] w fun e w' => ∃ g, e = .returned (.slice (some ⟨g, 0, none⟩) 5 5) ∧ w'.heap[g]? = some (.cells namesA 9) ∧ Below w.heap.size w w' := by
  go_enter Try.func72, Try.ntmps72
  go_wp2_with fail
  go_ret
  exact ⟨_, rfl, heap_alloc_last w _, bnew _ _⟩
set_option maxHeartbeats 1000000 in
theorem sizeLabels_in (w : World) : Calls Try.prog 73 #[] w fun e w' => ∃ g, e = .returned (.slice (some ⟨g, 0, none⟩) 5 5) ∧ w'.heap[g]? = some (.cells labsA 136) ∧ Below w.heap.size w w' := by
  go_enter Try.func73, Try.ntmps73
  go_wp2_with fail
  go_ret
  exact ⟨_, rfl, heap_alloc_last w _, bnew _ _⟩

def arr5 (h : Nat → Nat) (k : Nat) : Array Value := #[.int .u8 (h (k * 5)), .int .u8 (h (k * 5 + 1)), .int .u8 (h (k * 5 + 2)), .int .u8 (h (k * 5 + 3)), .int .u8 (h (k * 5 + 4))]

theorem arr5_cells {X : Array Value} {h : Nat → Nat} (xh : ∀ i, i < 25 → X[1 + i]? = some (.int .u8 (h i))) {k : Nat} (hk : k < 5) : ∀ j v, (arr5 h k).toList[j]? = some v → X[1 + k * 5 + j]? = some v := by
  intro j v hv
  have hj : j < 5 := by
    rcases Nat.lt_or_ge j 5 with h | h
    · exact h
    · rw [List.getElem?_eq_none (by simpa [arr5] using h)] at hv; cases hv
  rw [Nat.add_assoc, xh (k * 5 + j) (by omega), ← hv]
  have : j = 0 ∨ j = 1 ∨ j = 2 ∨ j = 3 ∨ j = 4 := by omega
  rcases this with rfl | rfl | rfl | rfl | rfl <;> rfl

/-- A label's numbers before its clearance is right. -/
def regI (k n : Nat) (h0 h1 h2 h3 h4 : Nat) : Array Value := #[.string (nameAt k), .int .u8 (labAt k).1, .int .u16 (labAt k).2, .int .i64 (8 + (h0 : Int) % 60), .int .i64 (8 + 2 * ((h1 : Int) % 12)), .int .i64 (4 + (h2 : Int) % 40), .int .i64 (1 + (h3 : Int) % 6), .int .i64 (2 + (h4 : Int) % 14), .int .i64 ((n : Int) - 1)]
def regZA : Array Value := #[.string ⟨#[]⟩, .int .u8 0, .int .u16 0, .int .i64 0, .int .i64 0, .int .i64 0, .int .i64 0, .int .i64 0, .int .i64 0]
theorem regI_eq (s : SizeL) (k n h0 h1 h2 h3 h4 : Nat) (c : Int) (hn : n = manyOf s) (e0 : h0 = s.h (k * 5)) (e1 : h1 = s.h (k * 5 + 1)) (e2 : h2 = s.h (k * 5 + 2)) (e3 : h3 = s.h (k * 5 + 3)) (e4 : h4 = s.h (k * 5 + 4)) (hc : c = ((clearAt (manyOf s) k : Nat) : Int)) :
    (regArr (sizeReg0 s k)).toList = (#[.string (nameAt k), .int .u8 (labAt k).1, .int .u16 (labAt k).2, .int .i64 (8 + (h0 : Int) % 60), .int .i64 (8 + 2 * ((h1 : Int) % 12)), .int .i64 (4 + (h2 : Int) % 40), .int .i64 (1 + (h3 : Int) % 6), .int .i64 (2 + (h4 : Int) % 14), .int .i64 c] : Array Value).toList := by
  subst hn e0 e1 e2 e3 e4 hc
  simp [regArr, sizeReg0]
theorem ltMaxLen {i n : Nat} (h : i < n) (hn : n ≤ maxLen) : (i : Int) < 9223372036854775807 := by
  have e : maxLen = 9223372036854775807 := rfl
  rw [e] at hn
  omega
theorem regs3 (s : SizeL) (h : manyOf s = 3) : (regCells (regs0 s 3)).set 8 (.int .i64 1) = regCells (sizeRegs s) := by
  rw [sizeRegs_of, if_pos h, h]
  simp [regs0, List.range_succ, regCells, regArr, sizeReg0]
theorem regsN (s : SizeL) (h : manyOf s ≠ 3) : regs0 s (manyOf s) = sizeRegs s := by rw [sizeRegs_of, if_neg h]
theorem getD_cast (l : List Nat) (i : Nat) (hi : i < l.length) : (l.map fun (x : Nat) => (x : Int)).getD i 0 = ((l.getD i 0 : Nat) : Int) := by
  simp [List.getD_eq_getElem?_getD, List.getElem?_eq_getElem hi]
/-- '==' on marks. -/
theorem eqMark (p q : Nat × Nat) (hp1 : p.1 ≤ 255) (hp2 : p.2 ≤ 65535) (hq1 : q.1 ≤ 255) (hq2 : q.2 ≤ 65535) (w : World) :
    (Op.equalIn 10000 158 (.agg #[.int .u8 p.1, .int .u16 p.2]) (.agg #[.int .u8 q.1, .int .u16 q.2])).run Try.prog w = .ok (decide (p = q)) w := by
  have z1 : Try.prog.cellsOf 158 = 2 := by kernel_rfl
  have z2 : Try.prog.cellsOf 5 = 1 := by kernel_rfl
  have z3 : Try.prog.cellsOf 80 = 1 := by kernel_rfl
  have key : ∀ p : Nat × Nat, p.1 ≤ 255 → p.2 ≤ 65535 → Try.prog.keyLits 2 158 [.int .u8 p.1, .int .u16 p.2] = some [.int .u8 p.1, .int .u16 p.2] := by
    intro p h1 h2
    have e8 : Try.prog.keyLits 1 5 [.int .u8 (p.1 : Int)] = some [.int .u8 p.1] := by simp [Program.keyLits, Try.underlying5, u8_wf (show 0 ≤ (p.1 : Int) ∧ (p.1 : Int) ≤ 255 by omega)]
    have e16 : Try.prog.keyLits 1 80 [.int .u16 (p.2 : Int)] = some [.int .u16 p.2] := by simp [Program.keyLits, Try.underlying80, u16_wf (show 0 ≤ (p.2 : Int) ∧ (p.2 : Int) ≤ 65535 by omega)]
    unfold Program.keyLits
    simp [Try.underlying158, z1, z2, z3, e8, e16]
  have formed : ∀ p : Nat × Nat, (Value.agg #[.int .u8 (p.1 : Int), .int .u16 (p.2 : Int)]).formed Try.prog 158 = true := fun p => by
    simp [Value.formed, Try.underlying158, z1]
  exact equal_key 2 (by omega) (by kernel_rfl) (formed p) (formed q) (key p hp1 hp2) (key q hq1 hq2) (by
    obtain ⟨a, b⟩ := p
    obtain ⟨c, d⟩ := q
    simp
    omega)
def sizeD : List (Nat × Tmp) := [(0, 29), (2, 31), (3, 32), (4, 33), (6, 35), (7, 36), (36, 65), (37, 8)]
def sizeNeed (i : Nat) : Nat := match i with
  | 2 => 2 ^ 0
  | 3 => 2 ^ 2
  | 4 => 2 ^ 0
  | 6 => 2 ^ 4
  | 7 => 2 ^ 6
  | 36 => 2 ^ 3 + 2 ^ 7
  | _ => 0
def sizeMasks : List Nat := [0, 1, 5, 13, 17, 21, 29, 81, 85, 93, 209, 213, 221, 68719476957, 137438953472, 137438953473, 137438953477, 137438953485, 137438953489, 137438953493, 137438953501, 137438953553, 137438953557, 137438953565, 137438953681, 137438953685, 137438953693, 206158430429]
def sizeF (H0 k n h0 h1 h2 h3 h4 : Nat) (i : Nat) (x : Value) (w : World) : Prop := match i with
  | 0 => ∃ g, x = .slice (some ⟨g, 0, none⟩) 5 5 ∧ w.heap[g]? = some (.cells namesA 9)
  | 2 => ∃ g, x = .pointer (some ⟨g, k, none⟩) ∧ w.heap[g]? = some (.cells namesA 9)
  | 3 => x = .string (nameAt k)
  | 4 => ∃ g, x = .slice (some ⟨g, 0, none⟩) 5 5 ∧ w.heap[g]? = some (.cells labsA 136)
  | 6 => ∃ g, x = .pointer (some ⟨g, k * 2, none⟩) ∧ w.heap[g]? = some (.cells labsA 136)
  | 7 => x = .agg #[.int .u8 (labAt k).1, .int .u16 (labAt k).2]
  | 36 => x = .agg (regI k n h0 h1 h2 h3 h4)
  | 37 => ∃ g, x = .pointer (some ⟨g, 0, none⟩) ∧ H0 ≤ g ∧ w.heap[g]? = some (.cells regZA 138)
  | _ => True
theorem sizeF_keep {H0 k n h0 h1 h2 h3 h4 : Nat} {i : Nat} {x : Value} {w w' : World} (h : sizeF H0 k n h0 h1 h2 h3 h4 i x w) (hb : Below w.heap.size w w') : sizeF H0 k n h0 h1 h2 h3 h4 i x w' := by
  unfold sizeF at *
  split at h
  all_goals first
    | exact h
    | (obtain ⟨g, h1, h2⟩ := h; exact ⟨g, h1, bkeep hb h2⟩)
    | (obtain ⟨g, h1, h2, h3⟩ := h; exact ⟨g, h1, h2, bkeep hb h3⟩)

set_option maxRecDepth 100000 in
set_option maxHeartbeats 8000000 in
theorem sizeRegs_in (w : World) (v : Value) (s : SizeL) (hv : SizeV w v s) :
    Calls Try.prog 67 #[v] w fun e w' => Below w.heap.size w w' ∧ ∃ rv mv, e = .returned (.tuple #[rv, mv]) ∧ w'.ownsRow w.heap.size 138 9 rv (sizeRegs s).length (regCells (sizeRegs s)) ∧ w'.ownsRow w.heap.size 158 2 mv (sizeMarks s).length (markCells (sizeMarks s)) := by
  obtain ⟨X, tv, rfl, hX, x0, xh, x26, hsi, hm1, hh1⟩ := hv
  obtain ⟨n1, n2⟩ := manyOf_le s
  have HSI := Lib.hid hsi
  have HX := Lib.hid xh
  have HH := Lib.hid hh1
  clear hsi xh hh1
  have hbx := heap_alloc_last w (.cells X 119)
  have cx0 := (rowcell hbx 0).trans x0
  have ymany : IntKind.u8.wrap ((s.many : Int).tmod 4) = ((s.many % 4 : Nat) : Int) := by rw [IntKind.wrap_u8, Int.tmod_eq_emod_of_nonneg (by omega)]; omega
  go_enter Try.func67, Try.ntmps67
  go_wp2_with fail
  obtain ⟨n, hn⟩ : ∃ n, n = manyOf s := ⟨_, rfl⟩
  rw [← hn] at n1 n2
  have en : (2 + (s.many : Int) % 4) = (n : Int) := by rw [hn]; unfold manyOf; omega
  rw [en]
  have HN := Lib.hid hn
  clear hn en cx0 ymany
  have hb1 := bnew w (.cells X 119)
  have hz1 : (w.alloc (.cells X 119)).heap.size = w.heap.size + 1 := World.size_alloc _ _
  obtain ⟨w1, hw1⟩ : ∃ w', w' = w.alloc (.cells X 119) := ⟨_, rfl⟩
  rw [← hw1] at hbx hb1 hz1 ⊢
  clear hw1
  go_loopw [5, 22] (fun r5 r22 wr => ∃ k : Nat, k ≤ n ∧ r22 = .int .i64 k ∧ Below w1.heap.size w1 wr ∧ wr.ownsRow w1.heap.size 138 9 r5 k (regCells (regs0 s k))) (fun _ r _ => n - (intOf r).toNat)
  case atStart => exact ⟨0, by omega, rfl, Below.refl _ _, rfl, .inl ⟨rfl, rfl⟩⟩
  case round =>
    obtain ⟨k, hk, rfl, hbr, hown⟩ := hrel
    by_cases hlt : k < n
    · have hXr := bkeep hbr hbx
      have h5 := arr5_cells HX.out (k := k) (by omega)
      have hpiece : ∀ j v, (arr5 s.h k).toList[j]? = some v → wr.cell? ⟨w.heap.size, 1 + k * 5 + j, none⟩ = some v := fun j v hv => (rowcell hXr _).trans (h5 j v hv)
      unfold arr5 at hpiece
      have hh0 := HH.out (k * 5)
      have hh1 := HH.out (k * 5 + 1)
      have hh2 := HH.out (k * 5 + 2)
      have hh3 := HH.out (k * 5 + 3)
      have hh4 := HH.out (k * 5 + 4)
      obtain ⟨h0, eh0⟩ : ∃ x, x = s.h (k * 5) := ⟨_, rfl⟩
      obtain ⟨h1, eh1⟩ : ∃ x, x = s.h (k * 5 + 1) := ⟨_, rfl⟩
      obtain ⟨h2, eh2⟩ : ∃ x, x = s.h (k * 5 + 2) := ⟨_, rfl⟩
      obtain ⟨h3, eh3⟩ : ∃ x, x = s.h (k * 5 + 3) := ⟨_, rfl⟩
      obtain ⟨h4, eh4⟩ : ∃ x, x = s.h (k * 5 + 4) := ⟨_, rfl⟩
      rw [← eh0, ← eh1, ← eh2, ← eh3, ← eh4] at hpiece
      rw [← eh0] at hh0
      rw [← eh1] at hh1
      rw [← eh2] at hh2
      rw [← eh3] at hh3
      rw [← eh4] at hh4
      have HP := Lib.hid hpiece
      have EH0 := Lib.hid eh0
      have EH1 := Lib.hid eh1
      have EH2 := Lib.hid eh2
      have EH3 := Lib.hid eh3
      have EH4 := Lib.hid eh4
      have HO := Lib.hid hown
      clear h5 hpiece hown eh0 eh1 eh2 eh3 eh4
      have hk5 : (k : Int) < 5 := by omega
      have hb2 := hbr.alloc hbr.size (.cells #[.int .u8 h0, .int .u8 h1, .int .u8 h2, .int .u8 h3, .int .u8 h4] 116)
      have B2 := heap_alloc_last wr (.cells #[.int .u8 h0, .int .u8 h1, .int .u8 h2, .int .u8 h3, .int .u8 h4] 116)
      have hz2 : wr.heap.size < (wr.alloc (.cells #[.int .u8 h0, .int .u8 h1, .int .u8 h2, .int .u8 h3, .int .u8 h4] 116)).heap.size := by simp
      have hO2 := Lib.hid (own_below HO.out (bnew wr (.cells #[.int .u8 h0, .int .u8 h1, .int .u8 h2, .int .u8 h3, .int .u8 h4] 116)))
      go_wp2_with (refine wpList_load_pieceTo rfl 116 (.tmp 27) rfl (some 28) rfl w.heap.size (1 + k * 5) (by go_simp) #[.int .u8 h0, .int .u8 h1, .int .u8 h2, .int .u8 h3, .int .u8 h4] _ HP.out Try.underlying116 rfl (by kernel_rfl) ?_)
      obtain ⟨x7, hx7⟩ : ∃ x, x = wr.heap.size := ⟨_, rfl⟩
      obtain ⟨w2, hw2⟩ : ∃ w', w' = wr.alloc (.cells #[.int .u8 h0, .int .u8 h1, .int .u8 h2, .int .u8 h3, .int .u8 h4] 116) := ⟨_, rfl⟩
      rw [← hw2] at hb2 B2 hz2 hO2 ⊢
      rw [← hx7] at B2 hz2 ⊢
      clear hw2 hx7 HP HO
      have t0 : (h0 : Int).tmod 60 = (h0 : Int) % 60 := Int.tmod_eq_emod_of_nonneg (by omega)
      have u0 : IntKind.i64.wrap ((h0 : Int) % 60) = (h0 : Int) % 60 := by rw [IntKind.wrap_i64]; omega
      have q0 : IntKind.i64.wrap (8 + (h0 : Int) % 60) = 8 + (h0 : Int) % 60 := by rw [IntKind.wrap_i64]; omega
      have t1 : (h1 : Int).tmod 12 = (h1 : Int) % 12 := Int.tmod_eq_emod_of_nonneg (by omega)
      have u1 : IntKind.i64.wrap ((h1 : Int) % 12) = (h1 : Int) % 12 := by rw [IntKind.wrap_i64]; omega
      have q1 : IntKind.i64.wrap (2 * ((h1 : Int) % 12)) = 2 * ((h1 : Int) % 12) := by rw [IntKind.wrap_i64]; omega
      have t2 : (h2 : Int).tmod 40 = (h2 : Int) % 40 := Int.tmod_eq_emod_of_nonneg (by omega)
      have u2 : IntKind.i64.wrap ((h2 : Int) % 40) = (h2 : Int) % 40 := by rw [IntKind.wrap_i64]; omega
      have q2 : IntKind.i64.wrap (4 + (h2 : Int) % 40) = 4 + (h2 : Int) % 40 := by rw [IntKind.wrap_i64]; omega
      have t3 : (h3 : Int).tmod 6 = (h3 : Int) % 6 := Int.tmod_eq_emod_of_nonneg (by omega)
      have u3 : IntKind.i64.wrap ((h3 : Int) % 6) = (h3 : Int) % 6 := by rw [IntKind.wrap_i64]; omega
      have q3 : IntKind.i64.wrap (1 + (h3 : Int) % 6) = 1 + (h3 : Int) % 6 := by rw [IntKind.wrap_i64]; omega
      have t4 : (h4 : Int).tmod 14 = (h4 : Int) % 14 := Int.tmod_eq_emod_of_nonneg (by omega)
      have u4 : IntKind.i64.wrap ((h4 : Int) % 14) = (h4 : Int) % 14 := by rw [IntKind.wrap_i64]; omega
      have q4 : IntKind.i64.wrap (2 + (h4 : Int) % 14) = 2 + (h4 : Int) % 14 := by rw [IntKind.wrap_i64]; omega
      have q5 : IntKind.i64.wrap (8 + 2 * ((h1 : Int) % 12)) = 8 + 2 * ((h1 : Int) % 12) := by rw [IntKind.wrap_i64]; omega
      have q6 : IntKind.i64.wrap ((n : Int) - 1) = (n : Int) - 1 := by rw [IntKind.wrap_i64]; omega
      have hS0 : ∀ l, Stage (fun w' => Below w2.heap.size w2 w') [] l w2.drew := fun l => Stage.nil (drewb w2)
      refine wp_region_gen (S := Stage (fun w' => Below w2.heap.size w2 w') []) (by kernel_rfl) ?_
      change wpAnyG _ _ _ _ _ _ _ _ (World.drew _)
      refine takeG 1 (.int .i64 k) (some 30) rfl rfl (by kernel_rfl) (by kernel_rfl) (by kernel_rfl) (by kernel_rfl) (fun _ _ _ h => h) (.inl ⟨by kernel_rfl, fun w _ => by go_simp⟩) (hS0 _) ?_
      refine takeG 5 (.int .i64 k) (some 34) rfl rfl (by kernel_rfl) (by kernel_rfl) (by kernel_rfl) (by kernel_rfl) (fun _ _ _ h => h) (.inl ⟨by kernel_rfl, fun w _ => by go_simp⟩) (hS0 _) ?_
      refine takeG 8 (.pointer (some ⟨x7, 0, none⟩)) (some 37) rfl rfl (by kernel_rfl) (by kernel_rfl) (by kernel_rfl) (by kernel_rfl) (fun _ _ _ h => h) (.inl ⟨by kernel_rfl, fun w _ => by go_simp⟩) (hS0 _) ?_
      refine takeG 9 (.int .u8 h0) (some 38) rfl rfl (by kernel_rfl) (by kernel_rfl) (by kernel_rfl) (by kernel_rfl) (fun _ _ _ h => h) (.inl ⟨by kernel_rfl, fun w hw => by have hc := (fun w hw => rowcell (bkeep hw B2)) w hw; go_simp⟩) (hS0 _) ?_
      refine takeG 10 (.int .u8 ((h0 : Int) % 60)) (some 39) rfl rfl (by kernel_rfl) (by kernel_rfl) (by kernel_rfl) (by kernel_rfl) (fun _ _ _ h => h) (.inl ⟨by kernel_rfl, fun w _ => by go_simp⟩) (hS0 _) ?_
      refine takeG 11 (.int .i64 ((h0 : Int) % 60)) (some 40) rfl rfl (by kernel_rfl) (by kernel_rfl) (by kernel_rfl) (by kernel_rfl) (fun _ _ _ h => h) (.inl ⟨by kernel_rfl, fun w _ => by go_simp⟩) (hS0 _) ?_
      refine takeG 12 (.int .i64 (8 + (h0 : Int) % 60)) (some 41) rfl rfl (by kernel_rfl) (by kernel_rfl) (by kernel_rfl) (by kernel_rfl) (fun _ _ _ h => h) (.inl ⟨by kernel_rfl, fun w _ => by go_simp⟩) (hS0 _) ?_
      refine takeG 13 (.pointer (some ⟨x7, 1, none⟩)) (some 42) rfl rfl (by kernel_rfl) (by kernel_rfl) (by kernel_rfl) (by kernel_rfl) (fun _ _ _ h => h) (.inl ⟨by kernel_rfl, fun w _ => by go_simp⟩) (hS0 _) ?_
      refine takeG 14 (.int .u8 h1) (some 43) rfl rfl (by kernel_rfl) (by kernel_rfl) (by kernel_rfl) (by kernel_rfl) (fun _ _ _ h => h) (.inl ⟨by kernel_rfl, fun w hw => by have hc := (fun w hw => rowcell (bkeep hw B2)) w hw; go_simp⟩) (hS0 _) ?_
      refine takeG 15 (.int .u8 ((h1 : Int) % 12)) (some 44) rfl rfl (by kernel_rfl) (by kernel_rfl) (by kernel_rfl) (by kernel_rfl) (fun _ _ _ h => h) (.inl ⟨by kernel_rfl, fun w _ => by go_simp⟩) (hS0 _) ?_
      refine takeG 16 (.int .i64 ((h1 : Int) % 12)) (some 45) rfl rfl (by kernel_rfl) (by kernel_rfl) (by kernel_rfl) (by kernel_rfl) (fun _ _ _ h => h) (.inl ⟨by kernel_rfl, fun w _ => by go_simp⟩) (hS0 _) ?_
      refine takeG 17 (.int .i64 (2 * ((h1 : Int) % 12))) (some 46) rfl rfl (by kernel_rfl) (by kernel_rfl) (by kernel_rfl) (by kernel_rfl) (fun _ _ _ h => h) (.inl ⟨by kernel_rfl, fun w _ => by go_simp⟩) (hS0 _) ?_
      refine takeG 18 (.int .i64 (8 + 2 * ((h1 : Int) % 12))) (some 47) rfl rfl (by kernel_rfl) (by kernel_rfl) (by kernel_rfl) (by kernel_rfl) (fun _ _ _ h => h) (.inl ⟨by kernel_rfl, fun w _ => by go_simp⟩) (hS0 _) ?_
      refine takeG 19 (.pointer (some ⟨x7, 2, none⟩)) (some 48) rfl rfl (by kernel_rfl) (by kernel_rfl) (by kernel_rfl) (by kernel_rfl) (fun _ _ _ h => h) (.inl ⟨by kernel_rfl, fun w _ => by go_simp⟩) (hS0 _) ?_
      refine takeG 20 (.int .u8 h2) (some 49) rfl rfl (by kernel_rfl) (by kernel_rfl) (by kernel_rfl) (by kernel_rfl) (fun _ _ _ h => h) (.inl ⟨by kernel_rfl, fun w hw => by have hc := (fun w hw => rowcell (bkeep hw B2)) w hw; go_simp⟩) (hS0 _) ?_
      refine takeG 21 (.int .u8 ((h2 : Int) % 40)) (some 50) rfl rfl (by kernel_rfl) (by kernel_rfl) (by kernel_rfl) (by kernel_rfl) (fun _ _ _ h => h) (.inl ⟨by kernel_rfl, fun w _ => by go_simp⟩) (hS0 _) ?_
      refine takeG 22 (.int .i64 ((h2 : Int) % 40)) (some 51) rfl rfl (by kernel_rfl) (by kernel_rfl) (by kernel_rfl) (by kernel_rfl) (fun _ _ _ h => h) (.inl ⟨by kernel_rfl, fun w _ => by go_simp⟩) (hS0 _) ?_
      refine takeG 23 (.int .i64 (4 + (h2 : Int) % 40)) (some 52) rfl rfl (by kernel_rfl) (by kernel_rfl) (by kernel_rfl) (by kernel_rfl) (fun _ _ _ h => h) (.inl ⟨by kernel_rfl, fun w _ => by go_simp⟩) (hS0 _) ?_
      refine takeG 24 (.pointer (some ⟨x7, 3, none⟩)) (some 53) rfl rfl (by kernel_rfl) (by kernel_rfl) (by kernel_rfl) (by kernel_rfl) (fun _ _ _ h => h) (.inl ⟨by kernel_rfl, fun w _ => by go_simp⟩) (hS0 _) ?_
      refine takeG 25 (.int .u8 h3) (some 54) rfl rfl (by kernel_rfl) (by kernel_rfl) (by kernel_rfl) (by kernel_rfl) (fun _ _ _ h => h) (.inl ⟨by kernel_rfl, fun w hw => by have hc := (fun w hw => rowcell (bkeep hw B2)) w hw; go_simp⟩) (hS0 _) ?_
      refine takeG 26 (.int .u8 ((h3 : Int) % 6)) (some 55) rfl rfl (by kernel_rfl) (by kernel_rfl) (by kernel_rfl) (by kernel_rfl) (fun _ _ _ h => h) (.inl ⟨by kernel_rfl, fun w _ => by go_simp⟩) (hS0 _) ?_
      refine takeG 27 (.int .i64 ((h3 : Int) % 6)) (some 56) rfl rfl (by kernel_rfl) (by kernel_rfl) (by kernel_rfl) (by kernel_rfl) (fun _ _ _ h => h) (.inl ⟨by kernel_rfl, fun w _ => by go_simp⟩) (hS0 _) ?_
      refine takeG 28 (.int .i64 (1 + (h3 : Int) % 6)) (some 57) rfl rfl (by kernel_rfl) (by kernel_rfl) (by kernel_rfl) (by kernel_rfl) (fun _ _ _ h => h) (.inl ⟨by kernel_rfl, fun w _ => by go_simp⟩) (hS0 _) ?_
      refine takeG 29 (.pointer (some ⟨x7, 4, none⟩)) (some 58) rfl rfl (by kernel_rfl) (by kernel_rfl) (by kernel_rfl) (by kernel_rfl) (fun _ _ _ h => h) (.inl ⟨by kernel_rfl, fun w _ => by go_simp⟩) (hS0 _) ?_
      refine takeG 30 (.int .u8 h4) (some 59) rfl rfl (by kernel_rfl) (by kernel_rfl) (by kernel_rfl) (by kernel_rfl) (fun _ _ _ h => h) (.inl ⟨by kernel_rfl, fun w hw => by have hc := (fun w hw => rowcell (bkeep hw B2)) w hw; go_simp⟩) (hS0 _) ?_
      refine takeG 31 (.int .u8 ((h4 : Int) % 14)) (some 60) rfl rfl (by kernel_rfl) (by kernel_rfl) (by kernel_rfl) (by kernel_rfl) (fun _ _ _ h => h) (.inl ⟨by kernel_rfl, fun w _ => by go_simp⟩) (hS0 _) ?_
      refine takeG 32 (.int .i64 ((h4 : Int) % 14)) (some 61) rfl rfl (by kernel_rfl) (by kernel_rfl) (by kernel_rfl) (by kernel_rfl) (fun _ _ _ h => h) (.inl ⟨by kernel_rfl, fun w _ => by go_simp⟩) (hS0 _) ?_
      refine takeG 33 (.int .i64 (2 + (h4 : Int) % 14)) (some 62) rfl rfl (by kernel_rfl) (by kernel_rfl) (by kernel_rfl) (by kernel_rfl) (fun _ _ _ h => h) (.inl ⟨by kernel_rfl, fun w _ => by go_simp⟩) (hS0 _) ?_
      refine takeG 34 (.int .i64 n) (some 63) rfl rfl (by kernel_rfl) (by kernel_rfl) (by kernel_rfl) (by kernel_rfl) (fun _ _ _ h => h) (.inl ⟨by kernel_rfl, fun w _ => by go_simp⟩) (hS0 _) ?_
      refine takeG 35 (.int .i64 ((n : Int) - 1)) (some 64) rfl rfl (by kernel_rfl) (by kernel_rfl) (by kernel_rfl) (by kernel_rfl) (fun _ _ _ h => h) (.inl ⟨by kernel_rfl, fun w _ => by go_simp⟩) (hS0 _) ?_
      refine wpAnyG_frame (fun a0 ha0 => ?_)
      have e30 : a0.tmps.getD 30 undef = .int .i64 k := by rw [ha0]; go_simp
      have e34 : a0.tmps.getD 34 undef = .int .i64 k := by rw [ha0]; go_simp
      have e41 : a0.tmps.getD 41 undef = .int .i64 (8 + (h0 : Int) % 60) := by rw [ha0]; go_simp
      have e47 : a0.tmps.getD 47 undef = .int .i64 (8 + 2 * ((h1 : Int) % 12)) := by rw [ha0]; go_simp
      have e52 : a0.tmps.getD 52 undef = .int .i64 (4 + (h2 : Int) % 40) := by rw [ha0]; go_simp
      have e57 : a0.tmps.getD 57 undef = .int .i64 (1 + (h3 : Int) % 6) := by rw [ha0]; go_simp
      have e62 : a0.tmps.getD 62 undef = .int .i64 (2 + (h4 : Int) % 14) := by rw [ha0]; go_simp
      have e64 : a0.tmps.getD 64 undef = .int .i64 ((n : Int) - 1) := by rw [ha0]; go_simp
      have esz : a0.tmps.size = 129 := by rw [ha0]; go_simp
      have HA := Lib.hid ha0
      clear ha0
      refine mixF 8 sizeD _ 206158430429 sizeNeed sizeMasks (by kernel_rfl) (by decide) (by decide) (by decide) (by decide) a0 _ (fun w' => Below w2.heap.size w2 w') (sizeF w2.heap.size k n h0 h1 h2 h3 h4) (fun l w' h => Stage.nil h) (fun i x w w' h _ hb => sizeF_keep h hb) ?step ?hend _ (drewb w2)
      case step =>
        intro d hd m v w3 hneed hno hS hF K hK
        simp only [sizeD, List.mem_cons, List.not_mem_nil, or_false] at hd
        rcases hd with rfl | rfl | rfl | rfl | rfl | rfl | rfl | rfl
        · refine callK 0 rfl (wanted_none rfl) (some 29) rfl 72 #[] (by go_simp) ((sizeNames_in w3).mono ?_)
          rintro e w4 ⟨g, he, hg, hb⟩
          exact ⟨_, he, hK _ _ hb (bnext hS hb) ⟨g, rfl, hg⟩⟩
        · obtain ⟨g, s29, hg⟩ := hF (0, 29) (by simp [sizeD]) (bit_done (need := sizeNeed 2) (by decide) hneed)
          have x29 := fillF_done (D := sizeD) (m := m) (v := v) (a := a0) (0, 29) (by simp [sizeD]) (by decide) _ (by decide : (2 ^ 0 &&& sizeNeed 2) = 2 ^ 0) hneed (by rw [esz]; decide) s29
          have x30 := (fill_other (m := m) (v := v) 30 sizeD a0 (by decide)).trans e30
          refine loudK 2 rfl (wanted_none rfl) (some 31) rfl (.pointer (some ⟨g, k, none⟩)) w3 ?_ (hK _ _ (Below.refl _ _) hS ⟨g, rfl, hg⟩)
          generalize fillF sizeD m v a0 = f at x29 x30 ⊢
          rw [Array.getD_eq_getD_getElem?] at x29 x30
          go_simp
        · obtain ⟨g, s31, hg⟩ := hF (2, 31) (by simp [sizeD]) (bit_done (need := sizeNeed 3) (by decide) hneed)
          have x31 := fillF_done (D := sizeD) (m := m) (v := v) (a := a0) (2, 31) (by simp [sizeD]) (by decide) _ (by decide : (2 ^ 2 &&& sizeNeed 3) = 2 ^ 2) hneed (by rw [esz]; decide) s31
          have c := (rowcell hg k).trans (namesA_get k (by omega))
          refine loudK 3 rfl (wanted_none rfl) (some 32) rfl (.string (nameAt k)) w3 ?_ (hK _ _ (Below.refl _ _) hS rfl)
          generalize fillF sizeD m v a0 = f at x31 ⊢
          rw [Array.getD_eq_getD_getElem?] at x31
          go_simp
        · refine callK 4 rfl (wanted_none rfl) (some 33) rfl 73 #[] (by go_simp) ((sizeLabels_in w3).mono ?_)
          rintro e w4 ⟨g, he, hg, hb⟩
          exact ⟨_, he, hK _ _ hb (bnext hS hb) ⟨g, rfl, hg⟩⟩
        · obtain ⟨g, s33, hg⟩ := hF (4, 33) (by simp [sizeD]) (bit_done (need := sizeNeed 6) (by decide) hneed)
          have x33 := fillF_done (D := sizeD) (m := m) (v := v) (a := a0) (4, 33) (by simp [sizeD]) (by decide) _ (by decide : (2 ^ 4 &&& sizeNeed 6) = 2 ^ 4) hneed (by rw [esz]; decide) s33
          have x34 := (fill_other (m := m) (v := v) 34 sizeD a0 (by decide)).trans e34
          refine loudK 6 rfl (wanted_none rfl) (some 35) rfl (.pointer (some ⟨g, k * 2, none⟩)) w3 ?_ (hK _ _ (Below.refl _ _) hS ⟨g, rfl, hg⟩)
          generalize fillF sizeD m v a0 = f at x33 x34 ⊢
          rw [Array.getD_eq_getD_getElem?] at x33 x34
          go_simp
        · obtain ⟨g, s35, hg⟩ := hF (6, 35) (by simp [sizeD]) (bit_done (need := sizeNeed 7) (by decide) hneed)
          have x35 := fillF_done (D := sizeD) (m := m) (v := v) (a := a0) (6, 35) (by simp [sizeD]) (by decide) _ (by decide : (2 ^ 6 &&& sizeNeed 7) = 2 ^ 6) hneed (by rw [esz]; decide) s35
          have hc := labsA_get k (by omega)
          have c0 := (rowcell hg (k * 2)).trans hc.1
          have c1 := (rowcell hg (k * 2 + 1)).trans hc.2
          refine loudK 7 rfl (wanted_none rfl) (some 36) rfl (.agg #[.int .u8 (labAt k).1, .int .u16 (labAt k).2]) w3 ?_ (hK _ _ (Below.refl _ _) hS rfl)
          generalize fillF sizeD m v a0 = f at x35 ⊢
          rw [Array.getD_eq_getD_getElem?] at x35
          go_simp
        · have s32 : v 3 = .string (nameAt k) := hF (3, 32) (by simp [sizeD]) (bit_done (need := sizeNeed 36) (by decide) hneed)
          have s36 : v 7 = .agg #[.int .u8 (labAt k).1, .int .u16 (labAt k).2] := hF (7, 36) (by simp [sizeD]) (bit_done (need := sizeNeed 36) (by decide) hneed)
          have x32 := fillF_done (D := sizeD) (m := m) (v := v) (a := a0) (3, 32) (by simp [sizeD]) (by decide) _ (by decide : (2 ^ 3 &&& sizeNeed 36) = 2 ^ 3) hneed (by rw [esz]; decide) s32
          have x36 := fillF_done (D := sizeD) (m := m) (v := v) (a := a0) (7, 36) (by simp [sizeD]) (by decide) _ (by decide : (2 ^ 7 &&& sizeNeed 36) = 2 ^ 7) hneed (by rw [esz]; decide) s36
          have x41 := (fill_other (m := m) (v := v) 41 sizeD a0 (by decide)).trans e41
          have x47 := (fill_other (m := m) (v := v) 47 sizeD a0 (by decide)).trans e47
          have x52 := (fill_other (m := m) (v := v) 52 sizeD a0 (by decide)).trans e52
          have x57 := (fill_other (m := m) (v := v) 57 sizeD a0 (by decide)).trans e57
          have x62 := (fill_other (m := m) (v := v) 62 sizeD a0 (by decide)).trans e62
          have x64 := (fill_other (m := m) (v := v) 64 sizeD a0 (by decide)).trans e64
          refine loudK 36 rfl (wanted_none rfl) (some 65) rfl (.agg (regI k n h0 h1 h2 h3 h4)) w3 ?_ (hK _ _ (Below.refl _ _) hS rfl)
          unfold regI
          generalize fillF sizeD m v a0 = f at x32 x36 x41 x47 x52 x57 x62 x64 ⊢
          rw [Array.getD_eq_getD_getElem?] at x32 x36 x41 x47 x52 x57 x62 x64
          go_simp
        · refine loudK 37 rfl (wanted_none rfl) (some 8) rfl (.pointer (some ⟨w3.heap.size, 0, none⟩)) (w3.alloc (.cells regZA 138)) ?_ (hK _ _ (bnew w3 _) (bnext hS (bnew w3 _)) ⟨w3.heap.size, rfl, hS.size, heap_alloc_last w3 _⟩)
          generalize fillF sizeD m v a0 = f
          unfold regZA
          go_simp
      case hend =>
        intro v w3 hS hF
        have s36 : v 36 = .agg (regI k n h0 h1 h2 h3 h4) := hF (36, 65) (by simp [sizeD])
        obtain ⟨g37, s37, hge, hg37⟩ := hF (37, 8) (by simp [sizeD])
        have hfr : fillF sizeD 206158430429 v a0 = (((((((a0.put (some 29) (v 0)).put (some 31) (v 2)).put (some 32) (v 3)).put (some 33) (v 4)).put (some 35) (v 6)).put (some 36) (v 7)).put (some 65) (v 36)).put (some 8) (v 37) := rfl
        rw [hfr, s36, s37, HA.out]
        clear hfr s36 s37 hF HA e30 e34 e41 e47 e52 e57 e62 e64 esz a0 hS0 t0 t1 t2 t3 t4 u0 u1 u2 u3 u4 q0 q1 q2 q3 q4 q5 q6
        refine storeWholeG 38 rfl (by kernel_rfl) (by kernel_rfl) rfl 138 (.tmp 8) (.tmp 65) rfl (regI k n h0 h1 h2 h3 h4) regZA 138 (g := g37) (by go_simp) (by go_simp) (by kernel_rfl) hg37 rfl (List.all_eq_true.1 (by rfl)) (fun w4 hg4 o4 => ?_)
        have hS4 := hS.trans (o4.toBelow (fun k hk => by cases hk; exact hge) hS.size)
        refine ⟨Stage.nil hS4, ?_⟩
        refine wpAnyG_done (by kernel_rfl) ?_ _
        go_simp
        have HO4 := Lib.hid (own_below hO2.out hS4)
        have hb4 := hb2.trans (hS4.mono hb2.size)
        have hgz : g37 < w4.heap.size := rowlt hg4
        have hlt5 : ∀ j, u5.ownBlock = some j → j < g37 := fun j hj => by have := (hO2.out.lt j hj).2; omega
        unfold regI at hg4
        have C4 := rowcell hg4
        have D4 := rowfree hg4
        clear hS o4 hg37 hO2 hS4
        by_cases hA : n = 2
        · have hA0 : ((n : Int) == 2) = true := by rw [beq_iff_eq]; omega
          have hA2 : (n : Int) < 4 := by omega
          by_cases hB : k = 0
          · have hB1 : ¬ (0 : Int) < k := by omega
            have hBH := Lib.hid hB
            have hAH := Lib.hid hA
            clear hA hB
            go_wp2_with (with_reducible refine wpList_stop (some 80) rfl ?_)
            refine Lib.hid ?_
            obtain ⟨w5, hw5⟩ : ∃ w', w' = w4.setCell ⟨g37, 8, none⟩ (.int .i64 1) := ⟨_, rfl⟩
            have hz5 : w5.heap.size = w4.heap.size := by subst hw5; first | rfl | simp [World.size_setCell]
            have o5 : One w4 w5 (some g37) := by rw [hw5]; exact one_setCell _ _ _ _
            rw [← hw5]
            clear hw5 C4 D4 hg4
            have hO5 := own_one HO4.out o5 (fun j hj e => by have := hlt5 j hj; have := Option.some.inj e; omega)
            have hb5 := hb4.trans (o5.toBelow (fun j hj => by cases hj; have := hb2.size; omega) hb4.size)
            have hO6 := own_below hO5 (bnew w5 (.cells #[.string (nameAt k), .int .u8 (labAt k).1, .int .u16 (labAt k).2, .int .i64 (8 + (h0 : Int) % 60), .int .i64 (8 + 2 * ((h1 : Int) % 12)), .int .i64 (4 + (h2 : Int) % 40), .int .i64 (1 + (h3 : Int) % 6), .int .i64 (2 + (h4 : Int) % 14), .int .i64 (1)] 138))
            have hl6 := heap_alloc_last w5 (.cells #[.string (nameAt k), .int .u8 (labAt k).1, .int .u16 (labAt k).2, .int .i64 (8 + (h0 : Int) % 60), .int .i64 (8 + 2 * ((h1 : Int) % 12)), .int .i64 (4 + (h2 : Int) % 40), .int .i64 (1 + (h3 : Int) % 6), .int .i64 (2 + (h4 : Int) % 14), .int .i64 (1)] 138)
            rw [hz5] at hl6
            have hb6 := hb5.alloc hb5.size (.cells #[.string (nameAt k), .int .u8 (labAt k).1, .int .u16 (labAt k).2, .int .i64 (8 + (h0 : Int) % 60), .int .i64 (8 + 2 * ((h1 : Int) % 12)), .int .i64 (4 + (h2 : Int) % 40), .int .i64 (1 + (h3 : Int) % 6), .int .i64 (2 + (h4 : Int) % 14), .int .i64 (1)] 138)
            refine wpList_append_sr rfl (.tmp 77) (.tmp 79) 143 rfl (some 80) rfl w1.heap.size 138 (.agg regZA) 9 72 Try.underlying143 (by kernel_rfl) rfl (by decide) u5 (.slice (some ⟨w4.heap.size, 0, none⟩) 1 1) k 1 (regCells (regs0 s k)) _ rfl hO6 rfl (SR.lit hl6 rfl) (List.all_eq_true.1 (by rfl)) (by unfold maxLen; omega) (by omega) hb6.size ?_
            intro v8 w8 hown8 hgr8 hloc8
            rw [← regI_eq s k n h0 h1 h2 h3 h4 (1) HN.out EH0.out EH1.out EH2.out EH3.out EH4.out (by rw [← HN.out]; simp [clearAt, hAH.out]), ← regCells_snoc, ← regs0_next] at hown8
            have hb8 := hb6.trans ((one_of_grown hgr8).toBelow (fun j hj => (own_blk hO6 hj).1) hb6.size)
            have HO8 := Lib.hid hown8
            clear hown8 hgr8 hloc8 hO6 hl6 hb6 hb5 hO5 o5
            go_wp2_with fail
            exact ⟨⟨k + 1, by omega, rfl, hb8, HO8.out⟩, by simp [intOf]; omega⟩
          · have hB1 : (0 : Int) < k := by omega
            have hAH := Lib.hid hA
            clear hA
            go_wp2_with (with_reducible refine wpList_stop (some 80) rfl ?_)
            refine Lib.hid ?_
            obtain ⟨w5, hw5⟩ : ∃ w', w' = (w4.setCell ⟨g37, 8, none⟩ (.int .i64 k)).setCell ⟨g37, 8, none⟩ (.int .i64 1) := ⟨_, rfl⟩
            have hz5 : w5.heap.size = w4.heap.size := by subst hw5; first | rfl | simp [World.size_setCell]
            have o5 : One w4 w5 (some g37) := by rw [hw5]; exact (one_setCell _ _ _ _).trans (one_setCell _ _ _ _)
            rw [← hw5]
            clear hw5 C4 D4 hg4
            have hO5 := own_one HO4.out o5 (fun j hj e => by have := hlt5 j hj; have := Option.some.inj e; omega)
            have hb5 := hb4.trans (o5.toBelow (fun j hj => by cases hj; have := hb2.size; omega) hb4.size)
            have hO6 := own_below hO5 (bnew w5 (.cells #[.string (nameAt k), .int .u8 (labAt k).1, .int .u16 (labAt k).2, .int .i64 (8 + (h0 : Int) % 60), .int .i64 (8 + 2 * ((h1 : Int) % 12)), .int .i64 (4 + (h2 : Int) % 40), .int .i64 (1 + (h3 : Int) % 6), .int .i64 (2 + (h4 : Int) % 14), .int .i64 (1)] 138))
            have hl6 := heap_alloc_last w5 (.cells #[.string (nameAt k), .int .u8 (labAt k).1, .int .u16 (labAt k).2, .int .i64 (8 + (h0 : Int) % 60), .int .i64 (8 + 2 * ((h1 : Int) % 12)), .int .i64 (4 + (h2 : Int) % 40), .int .i64 (1 + (h3 : Int) % 6), .int .i64 (2 + (h4 : Int) % 14), .int .i64 (1)] 138)
            rw [hz5] at hl6
            have hb6 := hb5.alloc hb5.size (.cells #[.string (nameAt k), .int .u8 (labAt k).1, .int .u16 (labAt k).2, .int .i64 (8 + (h0 : Int) % 60), .int .i64 (8 + 2 * ((h1 : Int) % 12)), .int .i64 (4 + (h2 : Int) % 40), .int .i64 (1 + (h3 : Int) % 6), .int .i64 (2 + (h4 : Int) % 14), .int .i64 (1)] 138)
            refine wpList_append_sr rfl (.tmp 77) (.tmp 79) 143 rfl (some 80) rfl w1.heap.size 138 (.agg regZA) 9 72 Try.underlying143 (by kernel_rfl) rfl (by decide) u5 (.slice (some ⟨w4.heap.size, 0, none⟩) 1 1) k 1 (regCells (regs0 s k)) _ rfl hO6 rfl (SR.lit hl6 rfl) (List.all_eq_true.1 (by rfl)) (by unfold maxLen; omega) (by omega) hb6.size ?_
            intro v8 w8 hown8 hgr8 hloc8
            rw [← regI_eq s k n h0 h1 h2 h3 h4 (1) HN.out EH0.out EH1.out EH2.out EH3.out EH4.out (by rw [← HN.out]; simp [clearAt, hAH.out]), ← regCells_snoc, ← regs0_next] at hown8
            have hb8 := hb6.trans ((one_of_grown hgr8).toBelow (fun j hj => (own_blk hO6 hj).1) hb6.size)
            have HO8 := Lib.hid hown8
            clear hown8 hgr8 hloc8 hO6 hl6 hb6 hb5 hO5 o5
            go_wp2_with fail
            exact ⟨⟨k + 1, by omega, rfl, hb8, HO8.out⟩, by simp [intOf]; omega⟩
        · have hA1 : ((n : Int) == 2) = false := by rw [beq_eq_false_iff_ne]; omega
          by_cases hB : n < 4
          · have hA2 : (n : Int) < 4 := by omega
            by_cases hC : k = 0
            · have hB1 : ¬ (0 : Int) < k := by omega
              have hCH := Lib.hid hC
              clear hC
              go_wp2_with (with_reducible refine wpList_stop (some 80) rfl ?_)
              refine Lib.hid ?_
              obtain ⟨w5, hw5⟩ : ∃ w', w' = w4 := ⟨_, rfl⟩
              have hz5 : w5.heap.size = w4.heap.size := by subst hw5; first | rfl | simp [World.size_setCell]
              have o5 : One w4 w5 (some g37) := by rw [hw5]; exact One.refl _ _
              rw [← hw5]
              clear hw5 C4 D4 hg4
              have hO5 := own_one HO4.out o5 (fun j hj e => by have := hlt5 j hj; have := Option.some.inj e; omega)
              have hb5 := hb4.trans (o5.toBelow (fun j hj => by cases hj; have := hb2.size; omega) hb4.size)
              have hO6 := own_below hO5 (bnew w5 (.cells #[.string (nameAt k), .int .u8 (labAt k).1, .int .u16 (labAt k).2, .int .i64 (8 + (h0 : Int) % 60), .int .i64 (8 + 2 * ((h1 : Int) % 12)), .int .i64 (4 + (h2 : Int) % 40), .int .i64 (1 + (h3 : Int) % 6), .int .i64 (2 + (h4 : Int) % 14), .int .i64 ((n : Int) - 1)] 138))
              have hl6 := heap_alloc_last w5 (.cells #[.string (nameAt k), .int .u8 (labAt k).1, .int .u16 (labAt k).2, .int .i64 (8 + (h0 : Int) % 60), .int .i64 (8 + 2 * ((h1 : Int) % 12)), .int .i64 (4 + (h2 : Int) % 40), .int .i64 (1 + (h3 : Int) % 6), .int .i64 (2 + (h4 : Int) % 14), .int .i64 ((n : Int) - 1)] 138)
              have hb6 := hb5.alloc hb5.size (.cells #[.string (nameAt k), .int .u8 (labAt k).1, .int .u16 (labAt k).2, .int .i64 (8 + (h0 : Int) % 60), .int .i64 (8 + 2 * ((h1 : Int) % 12)), .int .i64 (4 + (h2 : Int) % 40), .int .i64 (1 + (h3 : Int) % 6), .int .i64 (2 + (h4 : Int) % 14), .int .i64 ((n : Int) - 1)] 138)
              refine wpList_append_sr rfl (.tmp 77) (.tmp 79) 143 rfl (some 80) rfl w1.heap.size 138 (.agg regZA) 9 72 Try.underlying143 (by kernel_rfl) rfl (by decide) u5 (.slice (some ⟨w5.heap.size, 0, none⟩) 1 1) k 1 (regCells (regs0 s k)) _ rfl hO6 rfl (SR.lit hl6 rfl) (List.all_eq_true.1 (by rfl)) (by unfold maxLen; omega) (by omega) hb6.size ?_
              intro v8 w8 hown8 hgr8 hloc8
              rw [← regI_eq s k n h0 h1 h2 h3 h4 ((n : Int) - 1) HN.out EH0.out EH1.out EH2.out EH3.out EH4.out (by rw [← HN.out]; simp only [clearAt, hA, if_false, hCH.out, Nat.lt_irrefl, and_false]; omega), ← regCells_snoc, ← regs0_next] at hown8
              have hb8 := hb6.trans ((one_of_grown hgr8).toBelow (fun j hj => (own_blk hO6 hj).1) hb6.size)
              have HO8 := Lib.hid hown8
              clear hown8 hgr8 hloc8 hO6 hl6 hb6 hb5 hO5 o5
              go_wp2_with fail
              exact ⟨⟨k + 1, by omega, rfl, hb8, HO8.out⟩, by simp [intOf]; omega⟩
            · have hB1 : (0 : Int) < k := by omega
              go_wp2_with (with_reducible refine wpList_stop (some 80) rfl ?_)
              refine Lib.hid ?_
              obtain ⟨w5, hw5⟩ : ∃ w', w' = w4.setCell ⟨g37, 8, none⟩ (.int .i64 k) := ⟨_, rfl⟩
              have hz5 : w5.heap.size = w4.heap.size := by subst hw5; first | rfl | simp [World.size_setCell]
              have o5 : One w4 w5 (some g37) := by rw [hw5]; exact one_setCell _ _ _ _
              rw [← hw5]
              clear hw5 C4 D4 hg4
              have hO5 := own_one HO4.out o5 (fun j hj e => by have := hlt5 j hj; have := Option.some.inj e; omega)
              have hb5 := hb4.trans (o5.toBelow (fun j hj => by cases hj; have := hb2.size; omega) hb4.size)
              have hO6 := own_below hO5 (bnew w5 (.cells #[.string (nameAt k), .int .u8 (labAt k).1, .int .u16 (labAt k).2, .int .i64 (8 + (h0 : Int) % 60), .int .i64 (8 + 2 * ((h1 : Int) % 12)), .int .i64 (4 + (h2 : Int) % 40), .int .i64 (1 + (h3 : Int) % 6), .int .i64 (2 + (h4 : Int) % 14), .int .i64 ((k : Int))] 138))
              have hl6 := heap_alloc_last w5 (.cells #[.string (nameAt k), .int .u8 (labAt k).1, .int .u16 (labAt k).2, .int .i64 (8 + (h0 : Int) % 60), .int .i64 (8 + 2 * ((h1 : Int) % 12)), .int .i64 (4 + (h2 : Int) % 40), .int .i64 (1 + (h3 : Int) % 6), .int .i64 (2 + (h4 : Int) % 14), .int .i64 ((k : Int))] 138)
              rw [hz5] at hl6
              have hb6 := hb5.alloc hb5.size (.cells #[.string (nameAt k), .int .u8 (labAt k).1, .int .u16 (labAt k).2, .int .i64 (8 + (h0 : Int) % 60), .int .i64 (8 + 2 * ((h1 : Int) % 12)), .int .i64 (4 + (h2 : Int) % 40), .int .i64 (1 + (h3 : Int) % 6), .int .i64 (2 + (h4 : Int) % 14), .int .i64 ((k : Int))] 138)
              refine wpList_append_sr rfl (.tmp 77) (.tmp 79) 143 rfl (some 80) rfl w1.heap.size 138 (.agg regZA) 9 72 Try.underlying143 (by kernel_rfl) rfl (by decide) u5 (.slice (some ⟨w4.heap.size, 0, none⟩) 1 1) k 1 (regCells (regs0 s k)) _ rfl hO6 rfl (SR.lit hl6 rfl) (List.all_eq_true.1 (by rfl)) (by unfold maxLen; omega) (by omega) hb6.size ?_
              intro v8 w8 hown8 hgr8 hloc8
              rw [← regI_eq s k n h0 h1 h2 h3 h4 ((k : Int)) HN.out EH0.out EH1.out EH2.out EH3.out EH4.out (by rw [← HN.out]; simp only [clearAt, hA, if_false, hB, show 0 < k by omega, and_self, if_true]), ← regCells_snoc, ← regs0_next] at hown8
              have hb8 := hb6.trans ((one_of_grown hgr8).toBelow (fun j hj => (own_blk hO6 hj).1) hb6.size)
              have HO8 := Lib.hid hown8
              clear hown8 hgr8 hloc8 hO6 hl6 hb6 hb5 hO5 o5
              go_wp2_with fail
              exact ⟨⟨k + 1, by omega, rfl, hb8, HO8.out⟩, by simp [intOf]; omega⟩
          · have hA2 : ¬ (n : Int) < 4 := by omega
            go_wp2_with (with_reducible refine wpList_stop (some 80) rfl ?_)
            refine Lib.hid ?_
            obtain ⟨w5, hw5⟩ : ∃ w', w' = w4 := ⟨_, rfl⟩
            have hz5 : w5.heap.size = w4.heap.size := by subst hw5; first | rfl | simp [World.size_setCell]
            have o5 : One w4 w5 (some g37) := by rw [hw5]; exact One.refl _ _
            rw [← hw5]
            clear hw5 C4 D4 hg4
            have hO5 := own_one HO4.out o5 (fun j hj e => by have := hlt5 j hj; have := Option.some.inj e; omega)
            have hb5 := hb4.trans (o5.toBelow (fun j hj => by cases hj; have := hb2.size; omega) hb4.size)
            have hO6 := own_below hO5 (bnew w5 (.cells #[.string (nameAt k), .int .u8 (labAt k).1, .int .u16 (labAt k).2, .int .i64 (8 + (h0 : Int) % 60), .int .i64 (8 + 2 * ((h1 : Int) % 12)), .int .i64 (4 + (h2 : Int) % 40), .int .i64 (1 + (h3 : Int) % 6), .int .i64 (2 + (h4 : Int) % 14), .int .i64 ((n : Int) - 1)] 138))
            have hl6 := heap_alloc_last w5 (.cells #[.string (nameAt k), .int .u8 (labAt k).1, .int .u16 (labAt k).2, .int .i64 (8 + (h0 : Int) % 60), .int .i64 (8 + 2 * ((h1 : Int) % 12)), .int .i64 (4 + (h2 : Int) % 40), .int .i64 (1 + (h3 : Int) % 6), .int .i64 (2 + (h4 : Int) % 14), .int .i64 ((n : Int) - 1)] 138)
            have hb6 := hb5.alloc hb5.size (.cells #[.string (nameAt k), .int .u8 (labAt k).1, .int .u16 (labAt k).2, .int .i64 (8 + (h0 : Int) % 60), .int .i64 (8 + 2 * ((h1 : Int) % 12)), .int .i64 (4 + (h2 : Int) % 40), .int .i64 (1 + (h3 : Int) % 6), .int .i64 (2 + (h4 : Int) % 14), .int .i64 ((n : Int) - 1)] 138)
            refine wpList_append_sr rfl (.tmp 77) (.tmp 79) 143 rfl (some 80) rfl w1.heap.size 138 (.agg regZA) 9 72 Try.underlying143 (by kernel_rfl) rfl (by decide) u5 (.slice (some ⟨w5.heap.size, 0, none⟩) 1 1) k 1 (regCells (regs0 s k)) _ rfl hO6 rfl (SR.lit hl6 rfl) (List.all_eq_true.1 (by rfl)) (by unfold maxLen; omega) (by omega) hb6.size ?_
            intro v8 w8 hown8 hgr8 hloc8
            rw [← regI_eq s k n h0 h1 h2 h3 h4 ((n : Int) - 1) HN.out EH0.out EH1.out EH2.out EH3.out EH4.out (by rw [← HN.out]; simp only [clearAt, hA, if_false, hB, false_and]; omega), ← regCells_snoc, ← regs0_next] at hown8
            have hb8 := hb6.trans ((one_of_grown hgr8).toBelow (fun j hj => (own_blk hO6 hj).1) hb6.size)
            have HO8 := Lib.hid hown8
            clear hown8 hgr8 hloc8 hO6 hl6 hb6 hb5 hO5 o5
            go_wp2_with fail
            exact ⟨⟨k + 1, by omega, rfl, hb8, HO8.out⟩, by simp [intOf]; omega⟩
    · obtain rfl : k = n := by omega
      obtain ⟨b3, hb3⟩ : ∃ b, b = ((k : Int) == 3) := ⟨_, rfl⟩
      have hb3' := hb3.symm
      have HB3 := Lib.hid hb3
      clear hb3
      go_upto_if 83 with fail
      go_cut [] (fun wx => wx.ownsRow w1.heap.size 138 9 u5 k (regCells (sizeRegs s)) ∧ Below w1.heap.size w1 wx)
      case first =>
        by_cases h3 : k = 3
        · have h3i : b3 = true := by rw [HB3.out, beq_iff_eq]; omega
          subst h3i
          rcases hown.2 with ⟨_, h0⟩ | ⟨g0, c0, cur, rfl, hge0, hg0, hc0, hc1, hcs, _⟩
          · omega
          have hst := World.ownsRow.stored hown 8 (.int .i64 1)
          obtain ⟨x8, hx8⟩ : ∃ x, wr.cell? ⟨g0, 8, none⟩ = some x := ⟨_, (rowcell hg0 8).trans (Array.getElem?_eq_getElem (by omega))⟩
          have hfr := rowfree hg0
          have HS := Lib.hid hst
          have H3 := Lib.hid h3
          clear hst hown h3 hg0 hcs
          go_wp2_with fail
          go_meet
          have h := HS.out.1
          rw [show (regCells (regs0 s k)).set 8 (.int .i64 1) = regCells (sizeRegs s) by rw [H3.out]; exact regs3 s (HN.out.symm.trans H3.out)] at h
          exact ⟨h, hbr.setCell hge0 _⟩
        · have h3i : b3 = false := by rw [HB3.out, beq_eq_false_iff_ne]; omega
          subst h3i
          have H3 := Lib.hid h3
          have HO := Lib.hid hown
          clear h3 hown
          go_wp2_with fail
          go_meet
          have h := HO.out
          rw [show regs0 s k = sizeRegs s by rw [HN.out]; exact regsN s (HN.out ▸ H3.out)] at h
          exact ⟨h, hbr⟩
      case rest =>
        clear hown hbr
        obtain ⟨hown, hbr⟩ := hcut
        obtain ⟨wx, hwx⟩ : ∃ wx, wx = wc := ⟨_, rfl⟩
        subst hwx
        obtain ⟨At, capt, rfl, hk1, hk2⟩ := HSI.out.sr.form
        have hX6 := (rowcell (bkeep hbr hbx) 26).trans x26
        have HO := Lib.hid hown
        clear hown
        have hlen : (s.trust.map fun (x : Nat) => (x : Int)).length = s.trust.length := List.length_map _
        rw [hlen] at hk1 hX6
        go_wp2_with fail
        go_loopw [9, 90] (fun r9 r90 wr => ∃ i : Nat, i ≤ s.trust.length ∧ r90 = .int .i64 i ∧ Below w1.heap.size w1 wr ∧ wr.ownsRow w1.heap.size 138 9 u5 k (regCells (sizeRegs s)) ∧ wr.ownsRow w1.heap.size 158 2 r9 (marksTo k s.trust i).length (markCells (marksTo k s.trust i))) (fun _ r _ => s.trust.length - (intOf r).toNat)
        case atStart => exact ⟨0, by omega, rfl, hbr, HO.out, rfl, .inl ⟨rfl, rfl⟩⟩
        case round =>
          clear HO hbr hX6
          obtain ⟨i, hi, rfl, hbr, hown, hmk⟩ := hrel
          have hbw : Below w.heap.size w wr := hb1.trans (hbr.mono hb1.size)
          have HO := Lib.hid hown
          have HM := Lib.hid hmk
          by_cases hlt : i < s.trust.length
          · rcases HSI.out.cases with ⟨h, _⟩ | ⟨_, gt, offt, capt', hs, _, _, hgt, hct⟩
            · rw [h] at hlen; simp at hlen; omega
            cases hs
            have cx := (World.cell?_of_block (w := w) (a := ⟨gt, offt + i, none⟩) (hbw.block gt hgt)).trans (hct i (by rw [hlen]; exact hlt))
            rw [getD_cast _ _ hlt] at cx
            have hx255 : s.trust.getD i 0 ≤ 255 := by
              have hm : ((s.trust.getD i 0 : Nat) : Int) ∈ s.trust.map fun (x : Nat) => (x : Int) := by
                rw [List.getD_eq_getElem?_getD, List.getElem?_eq_getElem hlt]
                exact List.mem_map_of_mem (List.getElem_mem hlt)
              have := wf_u8 (HSI.out.wf _ hm)
              omega
            obtain ⟨x, hx⟩ : ∃ x, x = s.trust.getD i 0 := ⟨_, rfl⟩
            rw [← hx] at cx hx255
            have HXI := Lib.hid hx
            have hib := ltMaxLen hlt (Nat.le_trans hk1 hk2)
            have hwz1 : w1.heap.size ≤ wr.heap.size := hbr.size
            obtain ⟨f1, f2, f3⟩ := marksTo_facts k s.trust (by omega) i
            have hml : (marksTo k s.trust i).length ≤ 9 := by omega
            obtain ⟨ml, hml2⟩ : ∃ l, l = marksTo k s.trust i := ⟨_, rfl⟩
            rw [← hml2] at HM hml f2 hmk
            obtain ⟨Am, capm, rfl, hq1, hq2⟩ := (SR.of_own hmk).form
            have F2 := Lib.hid f2
            have HML := Lib.hid hml2
            clear hx hct hown hmk f1 f2 f3 hml2
            have y1 : IntKind.u8.wrap (k : Int) = k := by rw [IntKind.wrap_u8]; omega
            have y0 : ((k : Int) == 0) = false := by rw [beq_eq_false_iff_ne]; omega
            have y5 : k ≠ 0 := by omega
            have y2 : (x : Int).tmod (k : Int) = (x : Int) % k := Int.tmod_eq_emod_of_nonneg (by omega)
            have y3 : (x : Int).tdiv 8 = (x : Int) / 8 := Int.tdiv_eq_ediv_of_nonneg (by omega)
            have y4 : ((x : Int) / 8).tmod 4 = (x : Int) / 8 % 4 := Int.tmod_eq_emod_of_nonneg (by omega)
            have y6 : IntKind.u16.wrap ((x : Int) / 8 % 4) = (x : Int) / 8 % 4 := by rw [IntKind.wrap_u16]; omega
            have y7 : IntKind.u16.wrap (4 + (x : Int) / 8 % 4) = 4 + (x : Int) / 8 % 4 := by rw [IntKind.wrap_u16]; omega
            go_wp2_with fail
            have em1 : (x : Int) % (k : Int) = (((markAt k x).1 : Nat) : Int) := by simp [markAt]
            have em2 : 4 + (x : Int) / 8 % 4 = (((markAt k x).2 : Nat) : Int) := by simp [markAt]
            rw [em1, em2]
            have hmk1 : (markAt k x).1 ≤ 255 := by have := Nat.mod_lt x (show 0 < k by omega); simp only [markAt]; omega
            have hmk2 : (markAt k x).2 ≤ 65535 := by simp only [markAt]; omega
            clear em1 em2 y1 y0 y2 y3 y4 y6 y7
            obtain ⟨mk, hmk⟩ : ∃ m, m = markAt k x := ⟨_, rfl⟩
            rw [← hmk] at hmk1 hmk2 ⊢
            have HMK := Lib.hid hmk
            clear hmk
            have B2 := heap_alloc_last wr (.cells #[.int .u8 mk.1, .int .u16 mk.2] 158)
            have hb2 := hbr.alloc hbr.size (.cells #[.int .u8 mk.1, .int .u16 mk.2] 158)
            have HO2 := Lib.hid (own_below HO.out (bnew wr (.cells #[.int .u8 mk.1, .int .u16 mk.2] 158)))
            have HM2 := Lib.hid (own_below HM.out (bnew wr (.cells #[.int .u8 mk.1, .int .u16 mk.2] 158)))
            obtain ⟨xm, hxm⟩ : ∃ x, x = wr.heap.size := ⟨_, rfl⟩
            have hxw : xm < (wr.alloc (.cells #[.int .u8 mk.1, .int .u16 mk.2] 158)).heap.size := by rw [hxm]; simp
            obtain ⟨w2, hw2⟩ : ∃ w', w' = wr.alloc (.cells #[.int .u8 mk.1, .int .u16 mk.2] 158) := ⟨_, rfl⟩
            rw [← hw2] at B2 hb2 HO2 HM2 hxw ⊢
            rw [← hxm] at B2 ⊢
            clear hw2 hxm HO HM hbr hbw cx hwz1
            go_loopw [13, 109] (fun r13 r109 wr => ∃ (j : Nat) (b : Bool), j ≤ ml.length ∧ r109 = .int .i64 j ∧ r13 = .bool b ∧ b = decide (8 < i ∨ mk ∈ ml.take j) ∧ Below w2.heap.size w2 wr) (fun _ r _ => ml.length - (intOf r).toNat)
            case atStart => exact ⟨0, _, by omega, rfl, rfl, by simp; omega, Below.refl _ _⟩
            case round =>
              obtain ⟨j, b, hj, rfl, rfl, hb, hbi⟩ := hrel
              have HB := Lib.hid hb
              clear hb
              have C2 := rowcell (bkeep hbi B2)
              have hxr : xm < wr.heap.size := Nat.lt_of_lt_of_le hxw hbi.size
              by_cases hlj : j < ml.length
              · rcases (SR.of_own HM2.out).cases with ⟨h, _⟩ | ⟨_, gm, offm, capm', hs, _, _, hgm, hcm⟩
                · omega
                cases hs
                have hmc := labCells_get ml j hlj
                have e0 := ((World.cell?_of_block (w := w2) (a := ⟨gm, offm + j * 2, none⟩) (hbi.block gm hgm)).trans (hcm (j * 2) (by omega))).trans hmc.1
                have e1 := ((World.cell?_of_block (w := w2) (a := ⟨gm, offm + j * 2 + 1, none⟩) (hbi.block gm hgm)).trans (hcm (j * 2 + 1) (by omega))).trans hmc.2
                obtain ⟨g1, g2, g3⟩ := F2.out ml[j] (List.getElem_mem hlj)
                have HNX := Lib.hid (take_next ml j hlj)
                clear hmc hcm
                generalize ml[j] = q at *
                have heq := fun w => eqMark q mk (by omega) (by omega) hmk1 hmk2 w
                have hbn := hbi.alloc hbi.size (.cells #[.int .u8 q.1, .int .u16 q.2] 158)
                cases b
                · go_wp2_with (with_reducible refine wpList_stop (some 117) rfl ?_)
                  refine Lib.hid ?_
                  refine wpList_by (by kernel_rfl) (some 117) rfl (exec_eql (xs := #[.int .u8 q.1, .int .u16 q.2]) (ys := #[.int .u8 mk.1, .int .u16 mk.2]) rfl rfl rfl (by kernel_rfl) (heq _)) ?_
                  clear heq
                  go_wp2_with fail
                  refine ⟨⟨j + 1, decide (q = mk), by omega, rfl, rfl, ?_, hbn⟩, by simp [intOf]; omega⟩
                  have h := of_decide_eq_false HB.out.symm
                  rw [HNX.out]
                  rw [not_or] at h
                  by_cases hq : q = mk
                  · simp [hq]
                  · have hq2 : ¬ mk = q := fun e => hq e.symm
                    simp [hq, hq2, h.1, h.2]
                · go_wp2_with fail
                  refine ⟨⟨j + 1, true, by omega, rfl, rfl, ?_, hbn⟩, by simp [intOf]; omega⟩
                  have := of_decide_eq_true HB.out.symm
                  rw [HNX.out]
                  exact (decide_eq_true (this.imp_right (fun h => List.mem_append_left _ h))).symm
              · have hjj : ml.take j = ml := List.take_of_length_le (by omega)
                cases b
                · go_wp2_with (with_reducible refine wpList_stop (some 125) rfl ?_)
                  refine Lib.hid ?_
                  have h := of_decide_eq_false HB.out.symm
                  rw [hjj, HML.out, HMK.out, HXI.out] at h
                  have HH5 := Lib.hid h
                  clear h
                  have hbi5 := hbi.alloc hbi.size (.cells #[.int .u8 mk.1, .int .u16 mk.2] 158)
                  have hM5 := own_below HM2.out hbi5
                  have hl5 := heap_alloc_last wr (.cells #[.int .u8 mk.1, .int .u16 mk.2] 158)
                  have hw5 := hb2.trans (hbi5.mono hb2.size)
                  refine wpList_append_sr rfl (.tmp 122) (.tmp 124) 144 rfl (some 125) rfl w1.heap.size 158 (.agg #[.int .u8 0, .int .u16 0]) 2 4 Try.underlying144 (by kernel_rfl) rfl (by decide) (.slice Am ml.length capm) (.slice (some ⟨wr.heap.size, 0, none⟩) 1 1) ml.length 1 (markCells ml) _ rfl hM5 rfl (SR.lit hl5 rfl) (List.all_eq_true.1 (by rfl)) (by unfold maxLen; omega) (by omega) hw5.size ?_
                  intro v8 w8 hown8 hgr8 hloc8
                  have o8 := one_of_grown hgr8
                  have hb8 := hw5.trans (o8.toBelow (fun j hj => (own_blk hM5 hj).1) hw5.size)
                  have hR8 := own_one (own_below HO2.out hbi5) o8 (own_apart hM5 (own_below HO2.out hbi5) (by decide))
                  have HR8 := Lib.hid hR8
                  have HM8 := Lib.hid hown8
                  clear hR8 hown8 hgr8 hloc8 o8 hM5 hl5 hw5 hbi5
                  go_wp2_with fail
                  refine ⟨⟨i + 1, by omega, rfl, hb8, HR8.out, ?_⟩, by simp [intOf]; omega⟩
                  rw [marksTo_next, markStep, if_neg HH5.out, ← HML.out, ← HXI.out, ← HMK.out, List.length_append, show markCells (ml ++ [mk]) = markCells ml ++ [.int .u8 mk.1, .int .u16 mk.2] by simp [markCells, labCells]]
                  exact HM8.out
                · go_wp2_with fail
                  refine ⟨⟨i + 1, by omega, rfl, hb2.trans (hbi.mono hb2.size), own_below HO2.out hbi, ?_⟩, by simp [intOf]; omega⟩
                  have h := of_decide_eq_true HB.out.symm
                  rw [hjj, HML.out, HMK.out, HXI.out] at h
                  rw [marksTo_next, markStep, if_pos h, ← HML.out]
                  exact own_below HM2.out hbi
          · obtain rfl : s.trust.length = i := by omega
            go_wp2_with fail
            refine bodyPost_ret (v := .tuple #[u5, u9]) (by simp [results, Try.results67]) rfl ⟨hbw, u5, u9, rfl, ?_, ?_⟩
            · have := own_lower HO.out (show w.heap.size ≤ w1.heap.size by omega)
              rw [sizeRegs_length, ← HN.out]
              exact this
            · have := own_lower HM.out (show w.heap.size ≤ w1.heap.size by omega)
              unfold sizeMarks
              rw [← HN.out]
              exact this
end Go.Proofs.Ytapcbfeifeobhaa
