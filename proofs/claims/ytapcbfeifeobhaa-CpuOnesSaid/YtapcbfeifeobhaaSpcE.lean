/- Memory of a process: size, what lies in it, a byte read, a byte set. -/
import Derived.Test.YtapcbfeifeobhaaSpcD
set_option linter.unusedVariables false
set_option linter.unusedSimpArgs false
namespace Go.Proofs.Ytapcbfeifeobhaa
open Go.RowKit

/-- The pages are there, each once. -/
structure SpOk (F : Nat × Nat → Option (Nat → Nat)) (ps : List (Nat × Nat)) : Prop where
  p1 : ∀ p ∈ ps, p.1 ≤ 255 ∧ p.2 ≤ 65535
  is : ∀ p ∈ ps, (F p).isSome = true
  nd : ps.Nodup
  len : ps.length ≤ 32
/-- A space's bytes. -/
def spMem (F : Nat × Nat → Option (Nat → Nat)) (ps : List (Nat × Nat)) (i : Nat) : Nat := ((F (ps.getD (i / 64) (0, 0))).getD fun _ => 0) (i % 64)
section
variable {w w' w0 : World} {base gs g gm lab : Nat} {ps : List (Nat × Nat)} {v : Value} {a : Option Addr} {us : Nat → Nat} {F : Nat × Nat → Option (Nat → Nat)} {rs : List RegL}
set_option maxHeartbeats 4000000 in
theorem spaceSize_in (hs : SpV w base gs g lab ps v) (hl : ps.length ≤ 32) : Calls Try.prog 17 #[.pointer (some ⟨gs, 0, none⟩)] w fun e w' => e = .returned (.int .i64 (64 * ps.length : Nat)) ∧ w = w' := by
  obtain ⟨A, c, hv⟩ := own_form hs.ov
  have c2 := hs.c2
  rw [hv] at c2
  obtain ⟨n, hn⟩ : ∃ n, n = ps.length := ⟨_, rfl⟩
  rw [← hn] at c2 hl ⊢
  clear hs hv hn
  have f1 : IntKind.i64.wrap ((n : Int) * 64) = ((64 * n : Nat) : Int) := by rw [IntKind.wrap_i64]; omega
  go_enter Try.func17, Try.ntmps17
  go_wp2_with fail
  go_ret
  exact ⟨rfl, rfl⟩
/-- Do so many bytes from there lie in it? -/
def insideB (n at_ : Nat) (many : Int) : Bool := decide (0 ≤ many) && decide ((at_ : Int) + many ≤ 64 * n)
set_option maxHeartbeats 4000000 in
theorem spaceInside_in (hs : SpV w base gs g lab ps v) (hl : ps.length ≤ 32) (at_ : Nat) (ha : at_ ≤ 4294967295) (many : Int) (hm : many ≤ 9223372036854775807) (hm2 : -9223372036854775808 ≤ many) :
    Calls Try.prog 31 #[.pointer (some ⟨gs, 0, none⟩), .int .u32 at_, .int .i64 many] w fun e w' => e = .returned (.bool (insideB ps.length at_ many)) ∧ w = w' := by
  have HS := Lib.hid (spaceSize_in hs hl)
  obtain ⟨n, hn⟩ : ∃ n, n = ps.length := ⟨_, rfl⟩
  rw [← hn] at HS hl ⊢
  clear hs hn
  have hud : undef = Value.tuple #[] := rfl
  by_cases h0 : 0 ≤ many
  · obtain ⟨k, rfl⟩ : ∃ k : Nat, many = k := ⟨many.toNat, by omega⟩
    have f1 : IntKind.u64.wrap (at_ : Int) = at_ := by simp [IntKind.wrap, IntKind.bits, IntKind.signed]; omega
    have f2 : IntKind.u64.wrap (k : Int) = k := by simp [IntKind.wrap, IntKind.bits, IntKind.signed]; omega
    have f3 : IntKind.u64.wrap ((at_ : Int) + k) = (at_ : Int) + k := by simp [IntKind.wrap, IntKind.bits, IntKind.signed]; omega
    have f4 : IntKind.u64.wrap ((64 * n : Nat) : Int) = ((64 * n : Nat) : Int) := by simp [IntKind.wrap, IntKind.bits, IntKind.signed]; omega
    go_enter Try.func31, Try.ntmps31
    go_wp2_with fail
    refine HS.out.mono ?_; rintro e w2 ⟨rfl, rfl⟩
    go_wp2_with fail
    go_ret
    exact ⟨ret_bool (by simp [insideB]), rfl⟩
  · go_enter Try.func31, Try.ntmps31
    go_wp2_with fail
    go_ret
    exact ⟨ret_bool (by simp [insideB]; omega), rfl⟩
/-- A page's number: the two cells of it, where it lies. -/
theorem SpV.page (hs : SpV w base gs g lab ps v) (ok : SpOk F ps) {i : Nat} (hi : i < 64 * ps.length) :
    ∃ q off c, v = .slice (some ⟨q, off, none⟩) ps.length c ∧ w.cell? ⟨q, off + i / 64 * 2, none⟩ = some (.int .u8 (ps.getD (i / 64) (0, 0)).1) ∧ w.cell? ⟨q, off + i / 64 * 2 + 1, none⟩ = some (.int .u16 (ps.getD (i / 64) (0, 0)).2) := by
  obtain ⟨q, off, c, h1, _, _, _, h2⟩ := page_cells (SR.of_own hs.ov) (by omega)
  have hk : i / 64 < ps.length := by omega
  have := h2 (i / 64) hk
  refine ⟨q, off, c, h1, ?_, ?_⟩
  · rw [List.getD_eq_getElem?_getD, List.getElem?_eq_getElem hk]; exact this.1
  · rw [List.getD_eq_getElem?_getD, List.getElem?_eq_getElem hk]; exact this.2
theorem SpOk.at (ok : SpOk F ps) {k : Nat} (hk : k < ps.length) : (ps.getD k (0, 0)) ∈ ps := by
  rw [List.getD_eq_getElem?_getD, List.getElem?_eq_getElem hk]; exact List.getElem_mem hk
set_option maxRecDepth 100000 in
set_option maxHeartbeats 4000000 in
theorem spaceByte_in (ht : FP w g gm a us F) (hs : SpV w base gs g lab ps v) (ok : SpOk F ps) (i : Nat) (hi : i < 64 * ps.length) :
    Calls Try.prog 32 #[.pointer (some ⟨gs, 0, none⟩), .int .i64 i] w fun e w' => e = .returned (.int .u8 (spMem F ps i)) ∧ Below w.heap.size w w' := by
  obtain ⟨q, off, c, hv, k1, k2⟩ := hs.page ok hi
  have hk : i / 64 < ps.length := by omega
  have hl32 := ok.len
  have hmem := ok.at hk
  obtain ⟨p, hp⟩ : ∃ p, p = ps.getD (i / 64) (0, 0) := ⟨_, rfl⟩
  rw [← hp] at k1 k2 hmem
  obtain ⟨f, hf⟩ := Option.isSome_iff_exists.1 (ok.is p hmem)
  have c0 := hs.c0
  have c2 := hs.c2
  rw [hv] at c2
  have cB : ∀ d os, Calls Try.prog 49 #[.pointer (some ⟨g, 0, none⟩), .agg #[.int .u8 p.1, .int .u16 p.2], .int .i64 ((i % 64 : Nat) : Int)] (Go.Sort.grow (redrawn w d) os) fun e w'' => e = .returned (.tuple #[.int .u8 (f (i % 64)), .bool true]) ∧ ∃ p : Regrown, w'' = Go.Sort.grow (redrawn w p.d) p.os := fun d os =>
    Calls.regrown_of (frameByte_yes (ht.keep (below_regrown w d os)) p (ok.p1 p hmem).1 (ok.p1 p hmem).2 (i % 64) (Nat.mod_lt _ (by omega)) f hf)
  have CB := Lib.hid cB
  have HF := Lib.hid (show spMem F ps i = f (i % 64) by unfold spMem; rw [← hp, hf]; rfl)
  rw [HF.out]
  obtain ⟨y, hy⟩ : ∃ y, y = f (i % 64) := ⟨_, rfl⟩
  rw [← hy] at CB ⊢
  obtain ⟨n, hn⟩ : ∃ n, n = ps.length := ⟨_, rfl⟩
  obtain ⟨k, hkk⟩ : ∃ k, k = i / 64 := ⟨_, rfl⟩
  obtain ⟨r, hr⟩ : ∃ r, r = i % 64 := ⟨_, rfl⟩
  rw [← hn] at c2 hk
  rw [← hkk] at k1 k2 hk
  rw [← hr] at CB
  have q0 := fun d os => cell_regrown c0 d os
  have q2 := fun d os => cell_regrown c2 d os
  have qa := fun d os => cell_regrown k1 d os
  have qb := fun d os => cell_regrown k2 d os
  have f1 : (i : Int).tdiv 64 = k := by rw [Int.tdiv_eq_ediv_of_nonneg (by omega)]; omega
  have f2 : (i : Int).tmod 64 = r := by rw [Int.tmod_eq_emod_of_nonneg (by omega)]; omega
  have f3 : (k : Int) < n := by omega
  have f4 : IntKind.i64.wrap (k : Int) = k := by rw [IntKind.wrap_i64]; omega
  have f5 : IntKind.i64.wrap (r : Int) = r := by rw [IntKind.wrap_i64]; omega
  clear cB ht hs ok hmem hp hf hv hy hn hkk hr c0 c2 k1 k2 hi HF
  go_enter Try.func32, Try.ntmps32
  go_upto_region 1 with fail
  refine wp_region_quiet_below (by kernel_rfl) (by kernel_rfl) ?_
  repeat (go_big_quiet_step (first
    | (go_at_call 49; with_reducible exact CB.out _ _)))
  refine wpQuiet_nil ?_
  intro w7 hw7
  have hb7 : Below w.heap.size w w7 := by obtain ⟨p, rfl⟩ := hw7; exact below_regrown w p.d p.os
  clear hw7 q0 q2 qa qb CB f1 f2 f3 f4 f5
  go_wp2_with fail
  go_ret
  exact ⟨rfl, hb7⟩
/-- A byte of the space turns: the pages' contents. -/
def spPut (F : Nat × Nat → Option (Nat → Nat)) (ps : List (Nat × Nat)) (i c : Nat) : Nat × Nat → Option (Nat → Nat) :=
  putF F (ps.getD (i / 64) (0, 0)) (setB ((F (ps.getD (i / 64) (0, 0))).getD fun _ => 0) (i % 64) c)
theorem SpOk.put (ok : SpOk F ps) (p : Nat × Nat) (f : Nat → Nat) : SpOk (putF F p f) ps :=
  ⟨ok.p1, fun q hq => by unfold putF; split; · rfl
                         · exact ok.is q hq, ok.nd, ok.len⟩
set_option maxRecDepth 100000 in
set_option maxHeartbeats 4000000 in
theorem spaceSet_in (ht : FP w g gm a us F) (hs : SpV w base gs g lab ps v) (ok : SpOk F ps) (i : Nat) (hi : i < 64 * ps.length) (c : Nat) :
    Calls Try.prog 36 #[.pointer (some ⟨gs, 0, none⟩), .int .i64 i, .int .u8 c] w fun e w' => e = .returned (.tuple #[]) ∧ FP w' g gm a us (spPut F ps i c) ∧ Chg (fun k => k = g ∨ k = gm) w w' := by
  obtain ⟨q, off, cp, hv, k1, k2⟩ := hs.page ok hi
  have hk : i / 64 < ps.length := by omega
  have hl32 := ok.len
  have hmem := ok.at hk
  have HPUT := Lib.hid (show ∀ f, F (ps.getD (i / 64) (0, 0)) = some f → spPut F ps i c = putF F (ps.getD (i / 64) (0, 0)) (setB f (i % 64) c) from fun f hf => by unfold spPut; rw [hf]; rfl)
  obtain ⟨p, hp⟩ : ∃ p, p = ps.getD (i / 64) (0, 0) := ⟨_, rfl⟩
  rw [← hp] at k1 k2 hmem HPUT
  obtain ⟨f, hf⟩ := Option.isSome_iff_exists.1 (ok.is p hmem)
  have c0 := hs.c0
  have c2 := hs.c2
  rw [hv] at c2
  have CS := Lib.hid (frameSet_yes (ht.keep (drewb w)) p (ok.p1 p hmem).1 (ok.p1 p hmem).2 (i % 64) (Nat.mod_lt _ (by omega)) c f hf)
  rw [HPUT.out f hf]
  obtain ⟨n, hn⟩ : ∃ n, n = ps.length := ⟨_, rfl⟩
  obtain ⟨k, hkk⟩ : ∃ k, k = i / 64 := ⟨_, rfl⟩
  obtain ⟨r, hr⟩ : ∃ r, r = i % 64 := ⟨_, rfl⟩
  rw [← hn] at c2 hk
  rw [← hkk] at k1 k2 hk
  rw [← hr] at CS
  rw [← hr]
  have f1 : (i : Int).tdiv 64 = k := by rw [Int.tdiv_eq_ediv_of_nonneg (by omega)]; omega
  have f2 : (i : Int).tmod 64 = r := by rw [Int.tmod_eq_emod_of_nonneg (by omega)]; omega
  have f3 : (k : Int) < n := by omega
  have f4 : IntKind.i64.wrap (k : Int) = k := by rw [IntKind.wrap_i64]; omega
  have f5 : IntKind.i64.wrap (r : Int) = r := by rw [IntKind.wrap_i64]; omega
  clear ht hs ok hmem hp hf hv hn hkk hr hi HPUT
  go_enter Try.func36, Try.ntmps36
  refine wp_region_still_tail 15 (by kernel_rfl) (by kernel_rfl) ?_
  simp only [List.take_succ_cons, List.take_zero, List.drop_succ_cons, List.drop_zero]
  change wpStill _ _ (World.drew w) _ _ _
  iterate 15 still_step
  refine wpStill_nil ?_
  change wpList _ _ _ _ _ (World.drew w)
  go_wp2_with fail
  unfold markV at CS
  refine CS.out.mono ?_
  rintro e w2 ⟨rfl, hT, hD⟩
  go_wp2_with fail
  go_end0
  exact ⟨rfl, hT, (Chg.of_below (fun k => k = g ∨ k = gm) (drewb w)).trans (Chg.of_duo (S := fun k => k = g ∨ k = gm) hD (.inl rfl) (.inr rfl)) (fun k _ h => h)⟩
end
end Go.Proofs.Ytapcbfeifeobhaa
