/- Configurations: what is read of one. -/
import Derived.Test.YtapcbfeifeobhaaConC
set_option linter.unusedVariables false
set_option linter.unusedSimpArgs false
namespace Go.Proofs.Ytapcbfeifeobhaa
open Go.RowKit

theorem flat_get {α β : Type} (f : α → List β) (m : Nat) (hm : ∀ a, (f a).length = m) : ∀ (l : List α) (i : Nat) (hi : i < l.length) (j : Nat), j < m → (l.flatMap f)[i * m + j]? = (f l[i])[j]?
  | a :: l, 0, _, j, hj => by
    rw [List.flatMap_cons, Nat.zero_mul, Nat.zero_add, List.getElem?_append_left (by rw [hm]; exact hj)]
    rfl
  | a :: l, i + 1, hi, j, hj => by
    rw [List.flatMap_cons, Nat.add_mul, Nat.one_mul, List.getElem?_append_right (by rw [hm]; omega), hm, show i * m + m + j - m = i * m + j by omega]
    exact flat_get f m hm l i (by simpa using hi) j hj

/-- A row of registered labels: its cells. -/
theorem RS_cases {w : World} {v : Value} {rs : List RegL} (h : SR w v rs.length 9 (regCells rs)) (hn : 0 < rs.length) : ∃ g off cap, v = .slice (some ⟨g, off, none⟩) rs.length cap ∧ rs.length ≤ cap ∧ cap ≤ maxLen ∧ g < w.heap.size ∧
    ∀ i (hi : i < rs.length), w.cell? ⟨g, off + i * 9, none⟩ = some (.string rs[i].name) ∧ w.cell? ⟨g, off + i * 9 + 1, none⟩ = some (.int .u8 rs[i].lab.1) ∧ w.cell? ⟨g, off + i * 9 + 2, none⟩ = some (.int .u16 rs[i].lab.2) ∧
      w.cell? ⟨g, off + i * 9 + 3, none⟩ = some (.int .i64 rs[i].bl) ∧ w.cell? ⟨g, off + i * 9 + 4, none⟩ = some (.int .i64 rs[i].no) ∧ w.cell? ⟨g, off + i * 9 + 5, none⟩ = some (.int .i64 rs[i].fr) ∧
      w.cell? ⟨g, off + i * 9 + 6, none⟩ = some (.int .i64 rs[i].pr) ∧ w.cell? ⟨g, off + i * 9 + 7, none⟩ = some (.int .i64 rs[i].op) ∧ w.cell? ⟨g, off + i * 9 + 8, none⟩ = some (.int .i64 rs[i].cl) := by
  rcases h.cases with ⟨h1, _⟩ | ⟨_, g, off, cap, h1, h2, h3, h4, h5⟩
  · omega
  · refine ⟨g, off, cap, h1, h2, h3, h4, fun i hi => ?_⟩
    have key : ∀ j, j < 9 → w.cell? ⟨g, off + i * 9 + j, none⟩ = (regArr rs[i]).toList[j]? := fun j hj => by
      rw [Nat.add_assoc, h5 (i * 9 + j) (by omega)]
      exact flat_get (fun r => (regArr r).toList) 9 (fun _ => rfl) rs i hi j hj
    exact ⟨key 0 (by decide), key 1 (by decide), key 2 (by decide), key 3 (by decide), key 4 (by decide), key 5 (by decide), key 6 (by decide), key 7 (by decide), key 8 (by decide)⟩

def inB (i : Int) (n : Nat) : Bool := decide (0 ≤ i) && decide (i < n)
theorem inB_yes {i : Int} {n : Nat} (h : inB i n = true) : ∃ k : Nat, i = k ∧ k < n := by
  simp [inB] at h
  exact ⟨i.toNat, by omega, by omega⟩
theorem inB_nat {k n : Nat} (h : k < n) : inB (k : Int) n = true := by simp [inB]; omega

section
variable {w : World} {g gT gN gL : Nat} {v m u : Value} {rs : List RegL} {ms : List (Nat × Nat)}
set_option maxHeartbeats 1000000 in
theorem confLen_in (h : CF w g gT gN gL v m u rs ms) : Calls Try.prog 74 #[.pointer (some ⟨g, 0, none⟩)] w fun e w' => e = .returned (.int .i64 rs.length) ∧ w = w' := by
  obtain ⟨A, cap, rfl, _, _⟩ := h.sr.form
  have C := rowcell h.blk
  clear h
  go_enter Try.func74, Try.ntmps74
  go_wp2_with fail
  go_ret
  exact ⟨rfl, rfl⟩
set_option maxHeartbeats 1000000 in
theorem confLen_nil (w : World) : Calls Try.prog 74 #[.pointer none] w fun e w' => e = .returned (.int .i64 0) ∧ w = w' := by
  go_enter Try.func74, Try.ntmps74
  go_wp2_with fail
  go_ret
  exact ⟨rfl, rfl⟩
set_option maxHeartbeats 1000000 in
theorem confHas_of (p : Value) (n : Nat) (i : Int) (hl : Calls Try.prog 74 #[p] w fun e w' => e = .returned (.int .i64 n) ∧ w = w') :
    Calls Try.prog 69 #[p, .int .i64 i] w fun e w' => e = .returned (.bool (inB i n)) ∧ w = w' := by
  by_cases h0 : 0 ≤ i
  · go_enter Try.func69, Try.ntmps69
    go_wp2_with (go_at_call 74; refine hl.mono ?_; rintro e w1 ⟨rfl, rfl⟩)
    go_ret
    exact ⟨ret_bool (by simp [inB, h0]), rfl⟩
  · go_enter Try.func69, Try.ntmps69
    go_wp2_with fail
    go_ret
    exact ⟨ret_bool (by simp [inB]; omega), rfl⟩
theorem confHas_in (h : CF w g gT gN gL v m u rs ms) (i : Int) : Calls Try.prog 69 #[.pointer (some ⟨g, 0, none⟩), .int .i64 i] w fun e w' => e = .returned (.bool (inB i rs.length)) ∧ w = w' :=
  confHas_of _ _ i (confLen_in h)
theorem confHas_nil (w : World) (i : Int) : Calls Try.prog 69 #[.pointer none, .int .i64 i] w fun e w' => e = .returned (.bool false) ∧ w = w' := by
  have := confHas_of _ 0 i (confLen_nil w)
  rwa [show inB i 0 = false by simp [inB]] at this

def regZ : Value := .agg #[.string ⟨#[]⟩, .int .u8 0, .int .u16 0, .int .i64 0, .int .i64 0, .int .i64 0, .int .i64 0, .int .i64 0, .int .i64 0]
theorem regLoad (w : World) (r : RegL) : (loadVar 138 ⟨w.heap.size, 0, none⟩).run Try.prog (w.alloc (.cells (regArr r) 138)) = .ok (regV r) (w.alloc (.cells (regArr r) 138)) :=
  run_loadVar_piece _ 138 w.heap.size 0 (regArr r) _ (fun j v hv => by rw [Nat.zero_add, rowcell (heap_alloc_last w _)]; simpa using hv) Try.underlying138 rfl (by kernel_rfl)
theorem regLoadZ (w : World) : (loadVar 138 ⟨w.heap.size, 0, none⟩).run Try.prog (w.alloc (.cells #[.string ⟨#[]⟩, .int .u8 0, .int .u16 0, .int .i64 0, .int .i64 0, .int .i64 0, .int .i64 0, .int .i64 0, .int .i64 0] 138)) = .ok regZ (w.alloc (.cells #[.string ⟨#[]⟩, .int .u8 0, .int .u16 0, .int .i64 0, .int .i64 0, .int .i64 0, .int .i64 0, .int .i64 0, .int .i64 0] 138)) :=
  run_loadVar_piece _ 138 w.heap.size 0 #[.string ⟨#[]⟩, .int .u8 0, .int .u16 0, .int .i64 0, .int .i64 0, .int .i64 0, .int .i64 0, .int .i64 0, .int .i64 0] _ (fun j v hv => by rw [Nat.zero_add, rowcell (heap_alloc_last w _)]; simpa using hv) Try.underlying138 rfl (by kernel_rfl)
set_option maxHeartbeats 2000000 in
theorem confReg_no (w0 : World) (p : Value) (i : Int) (hh : ∀ w : World, Below w0.heap.size w0 w → Calls Try.prog 69 #[p, .int .i64 i] w fun e w' => e = .returned (.bool false) ∧ w = w') :
    Calls Try.prog 65 #[p, .int .i64 i] w0 fun e w' => e = .returned (.tuple #[regZ, .bool false]) ∧ Below w0.heap.size w0 w' := by
  go_enter Try.func65, Try.ntmps65
  go_wp2_with (go_at_call 69; refine (hh _ (bnew _ _)).mono ?_; rintro e w1 ⟨rfl, rfl⟩)
  have hrun := regLoadZ w0
  unfold regZ at hrun
  exact bodyPost_ret (v := .tuple #[regZ, .bool false]) (by simp [results, Try.results65, Act.put, asAddr, hrun, regZ]) rfl ⟨rfl, bnew _ _⟩
set_option maxHeartbeats 2000000 in
theorem confReg_yes (h : CF w g gT gN gL v m u rs ms) (i : Nat) (hi : i < rs.length) (hn : rs.length ≤ 100) :
    Calls Try.prog 65 #[.pointer (some ⟨g, 0, none⟩), .int .i64 i] w fun e w' => e = .returned (.tuple #[regV rs[i], .bool true]) ∧ Below w.heap.size w w' := by
  have H := Lib.hid (h.keep (bnew w (.cells #[.string ⟨#[]⟩, .int .u8 0, .int .u16 0, .int .i64 0, .int .i64 0, .int .i64 0, .int .i64 0, .int .i64 0, .int .i64 0] 138)))
  obtain ⟨gr, off, cap, rfl, hc1, hc2, hg, hc⟩ := RS_cases H.out.sr (by omega)
  obtain ⟨c0, c1, c2, c3, c4, c5, c6, c7, c8⟩ := hc i hi
  have C := rowcell H.out.blk
  clear hc
  unfold regV regArr
  generalize rs[i] = r at *
  go_enter Try.func65, Try.ntmps65
  go_wp2_with (go_at_call 69; refine (confHas_in H.out i).mono ?_; rintro e w1 ⟨rfl, rfl⟩; rw [inB_nat hi])
  have hrun := regLoad w r
  unfold regV regArr at hrun
  exact bodyPost_ret (v := .tuple #[regV r, .bool true]) (by simp [results, Try.results65, Act.put, asAddr, hrun, regV, regArr]) rfl ⟨rfl, bnew _ _⟩

/-- The answer of Leq. -/
def leqI (rs : List RegL) (a b : Int) : Bool := inB a rs.length && inB b rs.length && leqL (rs.getD a.toNat ⟨ByteArray.empty, (0, 0), 0, 0, 0, 0, 0, 0⟩).lab (rs.getD b.toNat ⟨ByteArray.empty, (0, 0), 0, 0, 0, 0, 0, 0⟩).lab
theorem leqI_nat {i j : Nat} (hi : i < rs.length) (hj : j < rs.length) : leqI rs (i : Int) (j : Int) = leqL rs[i].lab rs[j].lab := by
  unfold leqI
  rw [inB_nat hi, inB_nat hj]
  simp [hi, hj]

set_option maxRecDepth 20000 in
set_option maxHeartbeats 2000000 in
theorem confLeq_no1 (p : Value) (a b : Int) (hh : Calls Try.prog 69 #[p, .int .i64 a] w.drew fun e w' => e = .returned (.bool false) ∧ w.drew = w') :
    Calls Try.prog 71 #[p, .int .i64 a, .int .i64 b] w fun e w' => e = .returned (.bool false) ∧ Below w.heap.size w w' := by
  go_enter Try.func71, Try.ntmps71
  go_wp2_with fail
  refine wp_region_held (S := fun w' => w' = w.drew) (by kernel_rfl) ?_
  change wpAnyH _ _ _ _ _ _ _ _ (World.drew _)
  refine takeH 0 (p) (some 7) rfl rfl (by kernel_rfl) (by kernel_rfl) (by kernel_rfl) (fun _ _ _ h => h) (.inl ⟨by kernel_rfl, fun w _ => by go_simp⟩) rfl ?_
  refine takeH 1 (.int .i64 a) (some 8) rfl rfl (by kernel_rfl) (by kernel_rfl) (by kernel_rfl) (fun _ _ _ h => h) (.inl ⟨by kernel_rfl, fun w _ => by go_simp⟩) rfl ?_
  refine callH 2 rfl (by kernel_rfl) (by kernel_rfl) (some 9) rfl 69 #[p, .int .i64 a] ?hrun (hh.mono ?_)
  case hrun => go_simp
  rintro e w1 ⟨he, rfl⟩
  refine ⟨_, he, rfl, ?_⟩
  refine takeH 3 (.bool false) (some 10) rfl rfl (by kernel_rfl) (by kernel_rfl) (by kernel_rfl) (fun _ _ _ h => h) (.inl ⟨by kernel_rfl, fun w _ => by go_simp⟩) rfl ?_
  refine takeH 4 (undef) (some 11) rfl rfl (by kernel_rfl) (by kernel_rfl) (by kernel_rfl) (fun _ _ _ h => h) (.inr ⟨by kernel_rfl, rfl⟩) rfl ?_
  refine takeH 5 (undef) (some 12) rfl rfl (by kernel_rfl) (by kernel_rfl) (by kernel_rfl) (fun _ _ _ h => h) (.inr ⟨by kernel_rfl, rfl⟩) rfl ?_
  refine takeH 6 (undef) (some 13) rfl rfl (by kernel_rfl) (by kernel_rfl) (by kernel_rfl) (fun _ _ _ h => h) (.inr ⟨by kernel_rfl, rfl⟩) rfl ?_
  refine takeH 7 (.bool false) (some 14) rfl rfl (by kernel_rfl) (by kernel_rfl) (by kernel_rfl) (fun _ _ _ h => h) (.inl ⟨by kernel_rfl, fun w _ => by go_simp⟩) rfl ?_
  refine takeH 8 (.bool false) (some 15) rfl rfl (by kernel_rfl) (by kernel_rfl) (by kernel_rfl) (fun _ _ _ h => h) (.inl ⟨by kernel_rfl, fun w _ => by go_simp⟩) rfl ?_
  refine takeH 9 (undef) (some 16) rfl rfl (by kernel_rfl) (by kernel_rfl) (by kernel_rfl) (fun _ _ _ h => h) (.inr ⟨by kernel_rfl, rfl⟩) rfl ?_
  refine takeH 10 (undef) (some 17) rfl rfl (by kernel_rfl) (by kernel_rfl) (by kernel_rfl) (fun _ _ _ h => h) (.inr ⟨by kernel_rfl, rfl⟩) rfl ?_
  refine takeH 11 (undef) (some 18) rfl rfl (by kernel_rfl) (by kernel_rfl) (by kernel_rfl) (fun _ _ _ h => h) (.inr ⟨by kernel_rfl, rfl⟩) rfl ?_
  refine takeH 12 (undef) (some 19) rfl rfl (by kernel_rfl) (by kernel_rfl) (by kernel_rfl) (fun _ _ _ h => h) (.inr ⟨by kernel_rfl, rfl⟩) rfl ?_
  refine takeH 13 (undef) (some 20) rfl rfl (by kernel_rfl) (by kernel_rfl) (by kernel_rfl) (fun _ _ _ h => h) (.inr ⟨by kernel_rfl, rfl⟩) rfl ?_
  refine takeH 14 (undef) (some 21) rfl rfl (by kernel_rfl) (by kernel_rfl) (by kernel_rfl) (fun _ _ _ h => h) (.inr ⟨by kernel_rfl, rfl⟩) rfl ?_
  refine takeH 15 (undef) (some 22) rfl rfl (by kernel_rfl) (by kernel_rfl) (by kernel_rfl) (fun _ _ _ h => h) (.inr ⟨by kernel_rfl, rfl⟩) rfl ?_
  refine takeH 16 (undef) (some 23) rfl rfl (by kernel_rfl) (by kernel_rfl) (by kernel_rfl) (fun _ _ _ h => h) (.inr ⟨by kernel_rfl, rfl⟩) rfl ?_
  refine takeH 17 (undef) (some 24) rfl rfl (by kernel_rfl) (by kernel_rfl) (by kernel_rfl) (fun _ _ _ h => h) (.inr ⟨by kernel_rfl, rfl⟩) rfl ?_
  refine takeH 18 (undef) (some 25) rfl rfl (by kernel_rfl) (by kernel_rfl) (by kernel_rfl) (fun _ _ _ h => h) (.inr ⟨by kernel_rfl, rfl⟩) rfl ?_
  refine takeH 19 (undef) (some 26) rfl rfl (by kernel_rfl) (by kernel_rfl) (by kernel_rfl) (fun _ _ _ h => h) (.inr ⟨by kernel_rfl, rfl⟩) rfl ?_
  refine takeH 20 (undef) (some 27) rfl rfl (by kernel_rfl) (by kernel_rfl) (by kernel_rfl) (fun _ _ _ h => h) (.inr ⟨by kernel_rfl, rfl⟩) rfl ?_
  refine takeH 21 (undef) (some 28) rfl rfl (by kernel_rfl) (by kernel_rfl) (by kernel_rfl) (fun _ _ _ h => h) (.inr ⟨by kernel_rfl, rfl⟩) rfl ?_
  refine takeH 22 (undef) (some 29) rfl rfl (by kernel_rfl) (by kernel_rfl) (by kernel_rfl) (fun _ _ _ h => h) (.inr ⟨by kernel_rfl, rfl⟩) rfl ?_
  refine takeH 23 (undef) (some 30) rfl rfl (by kernel_rfl) (by kernel_rfl) (by kernel_rfl) (fun _ _ _ h => h) (.inr ⟨by kernel_rfl, rfl⟩) rfl ?_
  refine takeH 24 (undef) (some 31) rfl rfl (by kernel_rfl) (by kernel_rfl) (by kernel_rfl) (fun _ _ _ h => h) (.inr ⟨by kernel_rfl, rfl⟩) rfl ?_
  refine takeH 25 (undef) (some 32) rfl rfl (by kernel_rfl) (by kernel_rfl) (by kernel_rfl) (fun _ _ _ h => h) (.inr ⟨by kernel_rfl, rfl⟩) rfl ?_
  refine takeH 26 (.bool false) (some 33) rfl rfl (by kernel_rfl) (by kernel_rfl) (by kernel_rfl) (fun _ _ _ h => h) (.inl ⟨by kernel_rfl, fun w _ => by go_simp⟩) rfl ?_
  refine takeH 27 (.bool false) (some 6) rfl rfl (by kernel_rfl) (by kernel_rfl) (by kernel_rfl) (fun _ _ _ h => h) (.inl ⟨by kernel_rfl, fun w _ => by go_simp⟩) rfl ?_
  refine wpAnyH_done (by kernel_rfl) ?_ _
  go_simp
  go_wp2_with fail
  go_ret
  exact ⟨rfl, drewb w⟩
set_option maxRecDepth 20000 in
set_option maxHeartbeats 2000000 in
theorem confLeq_no2 (h : CF w g gT gN gL v m u rs ms) (a b : Int) (ha : inB a rs.length = true) (hb : inB b rs.length = false) :
    Calls Try.prog 71 #[.pointer (some ⟨g, 0, none⟩), .int .i64 a, .int .i64 b] w fun e w' => e = .returned (.bool false) ∧ Below w.heap.size w w' := by
  have h1 := confHas_in (h.keep (drewb w)) a
  have h2 := confHas_in (h.keep (drewb w)) b
  rw [ha] at h1
  rw [hb] at h2
  clear h
  go_enter Try.func71, Try.ntmps71
  go_wp2_with fail
  refine wp_region_held (S := fun w' => w' = w.drew) (by kernel_rfl) ?_
  change wpAnyH _ _ _ _ _ _ _ _ (World.drew _)
  refine takeH 0 (.pointer (some ⟨g, 0, none⟩)) (some 7) rfl rfl (by kernel_rfl) (by kernel_rfl) (by kernel_rfl) (fun _ _ _ h => h) (.inl ⟨by kernel_rfl, fun w _ => by go_simp⟩) rfl ?_
  refine takeH 1 (.int .i64 a) (some 8) rfl rfl (by kernel_rfl) (by kernel_rfl) (by kernel_rfl) (fun _ _ _ h => h) (.inl ⟨by kernel_rfl, fun w _ => by go_simp⟩) rfl ?_
  refine callH 2 rfl (by kernel_rfl) (by kernel_rfl) (some 9) rfl 69 #[.pointer (some ⟨g, 0, none⟩), .int .i64 a] ?hrun (h1.mono ?_)
  case hrun => go_simp
  rintro e w1 ⟨he, rfl⟩
  refine ⟨_, he, rfl, ?_⟩
  refine takeH 3 (.bool true) (some 10) rfl rfl (by kernel_rfl) (by kernel_rfl) (by kernel_rfl) (fun _ _ _ h => h) (.inl ⟨by kernel_rfl, fun w _ => by go_simp⟩) rfl ?_
  refine takeH 4 (.pointer (some ⟨g, 0, none⟩)) (some 11) rfl rfl (by kernel_rfl) (by kernel_rfl) (by kernel_rfl) (fun _ _ _ h => h) (.inl ⟨by kernel_rfl, fun w _ => by go_simp⟩) rfl ?_
  refine takeH 5 (.int .i64 b) (some 12) rfl rfl (by kernel_rfl) (by kernel_rfl) (by kernel_rfl) (fun _ _ _ h => h) (.inl ⟨by kernel_rfl, fun w _ => by go_simp⟩) rfl ?_
  refine callH 6 rfl (by kernel_rfl) (by kernel_rfl) (some 13) rfl 69 #[.pointer (some ⟨g, 0, none⟩), .int .i64 b] ?hrun (h2.mono ?_)
  case hrun => go_simp
  rintro e w1 ⟨he, rfl⟩
  refine ⟨_, he, rfl, ?_⟩
  refine takeH 7 (.bool false) (some 14) rfl rfl (by kernel_rfl) (by kernel_rfl) (by kernel_rfl) (fun _ _ _ h => h) (.inl ⟨by kernel_rfl, fun w _ => by go_simp⟩) rfl ?_
  refine takeH 8 (.bool false) (some 15) rfl rfl (by kernel_rfl) (by kernel_rfl) (by kernel_rfl) (fun _ _ _ h => h) (.inl ⟨by kernel_rfl, fun w _ => by go_simp⟩) rfl ?_
  refine takeH 9 (undef) (some 16) rfl rfl (by kernel_rfl) (by kernel_rfl) (by kernel_rfl) (fun _ _ _ h => h) (.inr ⟨by kernel_rfl, rfl⟩) rfl ?_
  refine takeH 10 (undef) (some 17) rfl rfl (by kernel_rfl) (by kernel_rfl) (by kernel_rfl) (fun _ _ _ h => h) (.inr ⟨by kernel_rfl, rfl⟩) rfl ?_
  refine takeH 11 (undef) (some 18) rfl rfl (by kernel_rfl) (by kernel_rfl) (by kernel_rfl) (fun _ _ _ h => h) (.inr ⟨by kernel_rfl, rfl⟩) rfl ?_
  refine takeH 12 (undef) (some 19) rfl rfl (by kernel_rfl) (by kernel_rfl) (by kernel_rfl) (fun _ _ _ h => h) (.inr ⟨by kernel_rfl, rfl⟩) rfl ?_
  refine takeH 13 (undef) (some 20) rfl rfl (by kernel_rfl) (by kernel_rfl) (by kernel_rfl) (fun _ _ _ h => h) (.inr ⟨by kernel_rfl, rfl⟩) rfl ?_
  refine takeH 14 (undef) (some 21) rfl rfl (by kernel_rfl) (by kernel_rfl) (by kernel_rfl) (fun _ _ _ h => h) (.inr ⟨by kernel_rfl, rfl⟩) rfl ?_
  refine takeH 15 (undef) (some 22) rfl rfl (by kernel_rfl) (by kernel_rfl) (by kernel_rfl) (fun _ _ _ h => h) (.inr ⟨by kernel_rfl, rfl⟩) rfl ?_
  refine takeH 16 (undef) (some 23) rfl rfl (by kernel_rfl) (by kernel_rfl) (by kernel_rfl) (fun _ _ _ h => h) (.inr ⟨by kernel_rfl, rfl⟩) rfl ?_
  refine takeH 17 (undef) (some 24) rfl rfl (by kernel_rfl) (by kernel_rfl) (by kernel_rfl) (fun _ _ _ h => h) (.inr ⟨by kernel_rfl, rfl⟩) rfl ?_
  refine takeH 18 (undef) (some 25) rfl rfl (by kernel_rfl) (by kernel_rfl) (by kernel_rfl) (fun _ _ _ h => h) (.inr ⟨by kernel_rfl, rfl⟩) rfl ?_
  refine takeH 19 (undef) (some 26) rfl rfl (by kernel_rfl) (by kernel_rfl) (by kernel_rfl) (fun _ _ _ h => h) (.inr ⟨by kernel_rfl, rfl⟩) rfl ?_
  refine takeH 20 (undef) (some 27) rfl rfl (by kernel_rfl) (by kernel_rfl) (by kernel_rfl) (fun _ _ _ h => h) (.inr ⟨by kernel_rfl, rfl⟩) rfl ?_
  refine takeH 21 (undef) (some 28) rfl rfl (by kernel_rfl) (by kernel_rfl) (by kernel_rfl) (fun _ _ _ h => h) (.inr ⟨by kernel_rfl, rfl⟩) rfl ?_
  refine takeH 22 (undef) (some 29) rfl rfl (by kernel_rfl) (by kernel_rfl) (by kernel_rfl) (fun _ _ _ h => h) (.inr ⟨by kernel_rfl, rfl⟩) rfl ?_
  refine takeH 23 (undef) (some 30) rfl rfl (by kernel_rfl) (by kernel_rfl) (by kernel_rfl) (fun _ _ _ h => h) (.inr ⟨by kernel_rfl, rfl⟩) rfl ?_
  refine takeH 24 (undef) (some 31) rfl rfl (by kernel_rfl) (by kernel_rfl) (by kernel_rfl) (fun _ _ _ h => h) (.inr ⟨by kernel_rfl, rfl⟩) rfl ?_
  refine takeH 25 (undef) (some 32) rfl rfl (by kernel_rfl) (by kernel_rfl) (by kernel_rfl) (fun _ _ _ h => h) (.inr ⟨by kernel_rfl, rfl⟩) rfl ?_
  refine takeH 26 (.bool false) (some 33) rfl rfl (by kernel_rfl) (by kernel_rfl) (by kernel_rfl) (fun _ _ _ h => h) (.inl ⟨by kernel_rfl, fun w _ => by go_simp⟩) rfl ?_
  refine takeH 27 (.bool false) (some 6) rfl rfl (by kernel_rfl) (by kernel_rfl) (by kernel_rfl) (fun _ _ _ h => h) (.inl ⟨by kernel_rfl, fun w _ => by go_simp⟩) rfl ?_
  refine wpAnyH_done (by kernel_rfl) ?_ _
  go_simp
  go_wp2_with fail
  go_ret
  exact ⟨rfl, drewb w⟩
set_option maxRecDepth 20000 in
set_option maxHeartbeats 4000000 in
theorem confLeq_yes (h : CF w g gT gN gL v m u rs ms) (hn : rs.length ≤ 100) (i j : Nat) (hi : i < rs.length) (hj : j < rs.length) (oi : okL rs[i].lab) (oj : okL rs[j].lab) :
    Calls Try.prog 71 #[.pointer (some ⟨g, 0, none⟩), .int .i64 i, .int .i64 j] w fun e w' => e = .returned (.bool (leqL rs[i].lab rs[j].lab)) ∧ Below w.heap.size w w' := by
  have h1 := confHas_in (h.keep (drewb w)) i
  have h2 := confHas_in (h.keep (drewb w)) j
  rw [inB_nat hi] at h1
  rw [inB_nat hj] at h2
  obtain ⟨gr, off, cap, rfl, hc1, hc2, hg, hc⟩ := RS_cases h.sr (by omega)
  obtain ⟨_, p1, p2, _⟩ := hc i hi
  obtain ⟨_, q1, q2, _⟩ := hc j hj
  have HB := Lib.hid h.blk
  clear hc h
  generalize rs[i] = ra at *
  generalize rs[j] = rb at *
  go_enter Try.func71, Try.ntmps71
  go_wp2_with fail
  have hS : Below w.heap.size w w.drew := drewb w
  refine wp_region_held (S := fun w' => Below w.heap.size w w') (by kernel_rfl) ?_
  change wpAnyH _ _ _ _ _ _ _ _ (World.drew _)
  refine takeH 0 (.pointer (some ⟨g, 0, none⟩)) (some 7) rfl rfl (by kernel_rfl) (by kernel_rfl) (by kernel_rfl) (fun _ _ _ h => h) (.inl ⟨by kernel_rfl, fun w _ => by go_simp⟩) hS ?_
  refine takeH 1 (.int .i64 i) (some 8) rfl rfl (by kernel_rfl) (by kernel_rfl) (by kernel_rfl) (fun _ _ _ h => h) (.inl ⟨by kernel_rfl, fun w _ => by go_simp⟩) hS ?_
  refine callH 2 rfl (by kernel_rfl) (by kernel_rfl) (some 9) rfl 69 #[.pointer (some ⟨g, 0, none⟩), .int .i64 i] ?hrun (h1.mono ?_)
  case hrun => go_simp
  rintro e w1 ⟨he, rfl⟩
  refine ⟨_, he, hS, ?_⟩
  refine takeH 3 (.bool true) (some 10) rfl rfl (by kernel_rfl) (by kernel_rfl) (by kernel_rfl) (fun _ _ _ h => h) (.inl ⟨by kernel_rfl, fun w _ => by go_simp⟩) hS ?_
  refine takeH 4 (.pointer (some ⟨g, 0, none⟩)) (some 11) rfl rfl (by kernel_rfl) (by kernel_rfl) (by kernel_rfl) (fun _ _ _ h => h) (.inl ⟨by kernel_rfl, fun w _ => by go_simp⟩) hS ?_
  refine takeH 5 (.int .i64 j) (some 12) rfl rfl (by kernel_rfl) (by kernel_rfl) (by kernel_rfl) (fun _ _ _ h => h) (.inl ⟨by kernel_rfl, fun w _ => by go_simp⟩) hS ?_
  refine callH 6 rfl (by kernel_rfl) (by kernel_rfl) (some 13) rfl 69 #[.pointer (some ⟨g, 0, none⟩), .int .i64 j] ?hrun (h2.mono ?_)
  case hrun => go_simp
  rintro e w1 ⟨he, rfl⟩
  refine ⟨_, he, hS, ?_⟩
  refine takeH 7 (.bool true) (some 14) rfl rfl (by kernel_rfl) (by kernel_rfl) (by kernel_rfl) (fun _ _ _ h => h) (.inl ⟨by kernel_rfl, fun w _ => by go_simp⟩) hS ?_
  refine takeH 8 (.bool true) (some 15) rfl rfl (by kernel_rfl) (by kernel_rfl) (by kernel_rfl) (fun _ _ _ h => h) (.inl ⟨by kernel_rfl, fun w _ => by go_simp⟩) hS ?_
  refine takeH 9 (.pointer (some ⟨g, 0, none⟩)) (some 16) rfl rfl (by kernel_rfl) (by kernel_rfl) (by kernel_rfl) (fun _ _ _ h => h) (.inl ⟨by kernel_rfl, fun w _ => by go_simp⟩) hS ?_
  refine takeH 10 (.pointer (some ⟨g, 0, none⟩)) (some 17) rfl rfl (by kernel_rfl) (by kernel_rfl) (by kernel_rfl) (fun _ _ _ h => h) (.inl ⟨by kernel_rfl, fun w _ => by go_simp⟩) hS ?_
  refine takeH 11 (.pointer (some ⟨g, 0, none⟩)) (some 18) rfl rfl (by kernel_rfl) (by kernel_rfl) (by kernel_rfl) (fun _ _ _ h => h) (.inl ⟨by kernel_rfl, fun w _ => by go_simp⟩) hS ?_
  refine takeH 12 (.slice (some ⟨gr, off, none⟩) rs.length cap) (some 19) rfl rfl (by kernel_rfl) (by kernel_rfl) (by kernel_rfl) (fun _ _ _ h => h) (.inl ⟨by kernel_rfl, fun w hw => by have e1 := rowcell (bkeep hw HB.out); go_simp⟩) hS ?_
  refine takeH 13 (.int .i64 i) (some 20) rfl rfl (by kernel_rfl) (by kernel_rfl) (by kernel_rfl) (fun _ _ _ h => h) (.inl ⟨by kernel_rfl, fun w _ => by go_simp⟩) hS ?_
  refine takeH 14 (.pointer (some ⟨gr, off + i * 9, none⟩)) (some 21) rfl rfl (by kernel_rfl) (by kernel_rfl) (by kernel_rfl) (fun _ _ _ h => h) (.inl ⟨by kernel_rfl, fun w _ => by go_simp⟩) hS ?_
  refine takeH 15 (.pointer (some ⟨gr, off + i * 9 + 1, none⟩)) (some 22) rfl rfl (by kernel_rfl) (by kernel_rfl) (by kernel_rfl) (fun _ _ _ h => h) (.inl ⟨by kernel_rfl, fun w _ => by go_simp⟩) hS ?_
  refine takeH 16 (.agg #[.int .u8 ra.lab.1, .int .u16 ra.lab.2]) (some 23) rfl rfl (by kernel_rfl) (by kernel_rfl) (by kernel_rfl) (fun _ _ _ h => h) (.inl ⟨by kernel_rfl, fun w hw => by have e1 := (World.cell?_of_block (a := ⟨gr, off + i * 9 + 1, none⟩) (hw.block gr hg)).trans p1; have e2 := (World.cell?_of_block (a := ⟨gr, off + i * 9 + 2, none⟩) (hw.block gr hg)).trans p2; go_simp⟩) hS ?_
  refine takeH 17 (.pointer (some ⟨g, 0, none⟩)) (some 24) rfl rfl (by kernel_rfl) (by kernel_rfl) (by kernel_rfl) (fun _ _ _ h => h) (.inl ⟨by kernel_rfl, fun w _ => by go_simp⟩) hS ?_
  refine takeH 18 (.pointer (some ⟨g, 0, none⟩)) (some 25) rfl rfl (by kernel_rfl) (by kernel_rfl) (by kernel_rfl) (fun _ _ _ h => h) (.inl ⟨by kernel_rfl, fun w _ => by go_simp⟩) hS ?_
  refine takeH 19 (.pointer (some ⟨g, 0, none⟩)) (some 26) rfl rfl (by kernel_rfl) (by kernel_rfl) (by kernel_rfl) (fun _ _ _ h => h) (.inl ⟨by kernel_rfl, fun w _ => by go_simp⟩) hS ?_
  refine takeH 20 (.slice (some ⟨gr, off, none⟩) rs.length cap) (some 27) rfl rfl (by kernel_rfl) (by kernel_rfl) (by kernel_rfl) (fun _ _ _ h => h) (.inl ⟨by kernel_rfl, fun w hw => by have e1 := rowcell (bkeep hw HB.out); go_simp⟩) hS ?_
  refine takeH 21 (.int .i64 j) (some 28) rfl rfl (by kernel_rfl) (by kernel_rfl) (by kernel_rfl) (fun _ _ _ h => h) (.inl ⟨by kernel_rfl, fun w _ => by go_simp⟩) hS ?_
  refine takeH 22 (.pointer (some ⟨gr, off + j * 9, none⟩)) (some 29) rfl rfl (by kernel_rfl) (by kernel_rfl) (by kernel_rfl) (fun _ _ _ h => h) (.inl ⟨by kernel_rfl, fun w _ => by go_simp⟩) hS ?_
  refine takeH 23 (.pointer (some ⟨gr, off + j * 9 + 1, none⟩)) (some 30) rfl rfl (by kernel_rfl) (by kernel_rfl) (by kernel_rfl) (fun _ _ _ h => h) (.inl ⟨by kernel_rfl, fun w _ => by go_simp⟩) hS ?_
  refine takeH 24 (.agg #[.int .u8 rb.lab.1, .int .u16 rb.lab.2]) (some 31) rfl rfl (by kernel_rfl) (by kernel_rfl) (by kernel_rfl) (fun _ _ _ h => h) (.inl ⟨by kernel_rfl, fun w hw => by have e1 := (World.cell?_of_block (a := ⟨gr, off + j * 9 + 1, none⟩) (hw.block gr hg)).trans q1; have e2 := (World.cell?_of_block (a := ⟨gr, off + j * 9 + 2, none⟩) (hw.block gr hg)).trans q2; go_simp⟩) hS ?_
  refine callH 25 rfl (by kernel_rfl) (by kernel_rfl) (some 32) rfl 79 #[.agg #[.int .u8 ra.lab.1, .int .u16 ra.lab.2], .agg #[.int .u8 rb.lab.1, .int .u16 rb.lab.2]] ?hrun ((labLeq_any ra.lab rb.lab oi oj _).mono ?_)
  case hrun => go_simp
  rintro e w2 ⟨he, hb2⟩
  have hS2 := hS.trans hb2
  refine ⟨_, he, hS2, ?_⟩
  refine takeH 26 (.bool (leqL ra.lab rb.lab)) (some 33) rfl rfl (by kernel_rfl) (by kernel_rfl) (by kernel_rfl) (fun _ _ _ h => h) (.inl ⟨by kernel_rfl, fun w _ => by go_simp⟩) hS2 ?_
  refine takeH 27 (.bool (leqL ra.lab rb.lab)) (some 6) rfl rfl (by kernel_rfl) (by kernel_rfl) (by kernel_rfl) (fun _ _ _ h => h) (.inl ⟨by kernel_rfl, fun w _ => by go_simp⟩) hS2 ?_
  refine wpAnyH_done (by kernel_rfl) ?_ _
  go_simp
  go_wp2_with fail
  go_ret
  exact ⟨rfl, hS2⟩
end

end Go.Proofs.Ytapcbfeifeobhaa
