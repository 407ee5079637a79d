/- Whose turn it is: New, Now, Until, Tick, Bound, Pick. -/
import Derived.Test.YtpjfnmmgfmfcfaaTskD
set_option linter.unusedVariables false
set_option linter.unusedSimpArgs false
namespace Go.Proofs.Ytpjfnmmgfmfcfaa
open Go.RowKit
open Go.Maps (Keyed)

def turnF (a : Option Addr) (last : Nat → Nat) (now slots : Nat) (i : Nat) : Value :=
  if i = 0 then .pointer a else if i ≤ 64 then .int .u16 (last (i - 1)) else if i = 65 then .int .u64 now else .int .u64 slots
abbrev TU (w : World) (gt : Nat) (a : Option Addr) (last : Nat → Nat) (now slots : Nat) : Prop := w.rowIs gt 129 67 (turnF a last now slots)

section
variable {B : Nat} {w0 w w' : World} {g gm gt : Nat} {a : Option Addr} {rs : List RegL} {T : Nat → List TE} {last : Nat → Nat} {now slots : Nat}
theorem TT.one (h : TT B w g gm a T) {x : Nat} (o : One w w' (some x)) (hx : ¬ tS g gm T x) : TT B w' g gm a T :=
  ⟨h.tp.one o (fun e => hx (.inl e)) (fun e => hx (.inr (.inl e))), fun l t ht => (h.pr l t ht).of_block (o.block _ (h.pr l t ht).lt (fun e => hx (by
    injection e with e
    exact .inr (.inr ⟨l, t, ht, e.symm⟩)))), h.ok⟩
theorem TT.notS (h : TT B w g gm a T) {x : Nat} {cs : Array Value} {t : TypeId} {fr : Nat × Nat} (hx : w.heap[x]? = some (.cells cs t fr)) (h1 : t ≠ 104) (h2 : t ≠ 63) : ¬ tS g gm T x := fun hk => by
  rcases hk with e | e | ⟨l, t', ht, e⟩
  · exact (h.tp.ne_cells hx h1).1 e
  · exact (h.tp.ne_cells hx h1).2 e
  · have h3 := rowIs_arr (h.pr l t' ht)
    rw [e] at h3
    exact h2 (cells_type hx h3)
theorem TU.notS (hu : TU w gt a last now slots) (h : TT B w g gm a T) : ¬ tS g gm T gt := h.notS (rowIs_arr hu) (by decide) (by decide)

set_option maxRecDepth 20000 in
set_option maxHeartbeats 4000000 in
theorem turnNew_in (w : World) (a : Addr) : Calls Try.prog 18 #[.pointer (some a)] w fun e w' => ∃ gt, e = .returned (.pointer (some ⟨gt, 0, none⟩)) ∧ w.heap.size ≤ gt ∧ TU w' gt (some a) (fun _ => 0) 0 0 ∧ Below w.heap.size w w' := by
  obtain ⟨X, hX⟩ : ∃ X, X = rowArr 67 (turnF (some a) (fun _ => 0) 0 0) := ⟨_, rfl⟩
  have HX := Lib.hid hX
  clear hX
  go_enter Try.func18, Try.ntmps18
  go_wp2_with (refine wpList_buildTo rfl 129 _ rfl (some 6) rfl X ?hf ?_; case hf => (rw [HX.out]; kernel_rfl))
  go_ret
  refine ⟨_, rfl, Nat.le_refl _, rowIs_of_arr ?_, bnew _ _⟩
  rw [← HX.out]
  exact heap_alloc_last w (.cells X 129)
set_option maxHeartbeats 4000000 in
theorem turnNow_in (hu : TU w gt a last now slots) : Calls Try.prog 26 #[.pointer (some ⟨gt, 0, none⟩)] w fun e w' => e = .returned (.int .u64 now) ∧ w = w' := by
  have c : w.cell? ⟨gt, 65, none⟩ = some (.int .u64 now) := hu.cell (i := 65) (by omega)
  clear hu
  go_enter Try.func26, Try.ntmps26
  go_wp2_with fail
  go_ret
  exact ⟨rfl, rfl⟩
set_option maxHeartbeats 4000000 in
theorem turnUntil_in (hu : TU w gt a last now slots) (n : Nat) (hn : n ≤ 4294967295) (hb : now ≤ 1000000) : Calls Try.prog 21 #[.pointer (some ⟨gt, 0, none⟩), .int .u32 n] w fun e w' => e = .returned (.int .u64 ((now + min n 1048576 : Nat) : Int)) ∧ w = w' := by
  have HU := Lib.hid hu
  clear hu
  rcases (show n ≤ 1048576 ∨ 1048576 < n by omega) with h | h
  · have f1 : (n : Int) ≤ 1048576 := by omega
    have f2 : IntKind.u64.wrap (n : Int) = n := by simp [IntKind.wrap, IntKind.bits, IntKind.signed]; omega
    have f3 : IntKind.u64.wrap ((now : Int) + n) = (now : Int) + n := by simp [IntKind.wrap, IntKind.bits, IntKind.signed]; omega
    rw [Nat.min_eq_left h]
    go_enter Try.func21, Try.ntmps21
    go_wp2_with fail
    refine (turnNow_in HU.out).mono ?_
    rintro e w2 ⟨rfl, rfl⟩
    go_wp2_with fail
    go_ret
    exact ⟨by go_num, rfl⟩
  · have f1 : ¬ ((n : Int) ≤ 1048576) := by omega
    have f3 : IntKind.u64.wrap ((now : Int) + 1048576) = (now : Int) + 1048576 := by simp [IntKind.wrap, IntKind.bits, IntKind.signed]; omega
    rw [Nat.min_eq_right (Nat.le_of_lt h)]
    go_enter Try.func21, Try.ntmps21
    go_wp2_with fail
    refine (turnNow_in HU.out).mono ?_
    rintro e w2 ⟨rfl, rfl⟩
    go_wp2_with fail
    go_ret
    exact ⟨by go_num, rfl⟩
theorem turnF_now (a : Option Addr) (last : Nat → Nat) (now slots now' j : Nat) : turnF a last now' slots j = if j = 65 then .int .u64 now' else turnF a last now slots j := by
  by_cases h : j = 65
  · subst h; rfl
  · rw [if_neg h]; unfold turnF; simp [h]
set_option maxHeartbeats 4000000 in
theorem turnTick_in (hp : ConfP w0 a rs) (hb : Below w0.heap.size w0 w) (h : TT B w g gm a T) (hu : TU w gt a last now slots) (hgt : w0.heap.size ≤ gt) (h0 : w0.heap.size ≤ B) (hg : B ≤ g) (hgm : B ≤ gm) (hB : B ≤ w.heap.size) (h64 : rs.length ≤ 64) (hnow : now ≤ 1000000) :
    Calls Try.prog 24 #[.pointer (some ⟨gt, 0, none⟩), .pointer (some ⟨g, 0, none⟩)] w fun e w' => e = .returned (.int .i64 (cntT (tickB (now + 1)) T rs.length)) ∧ TT B w' g gm a (wakeT (tickB (now + 1)) T rs.length) ∧ TU w' gt a last (now + 1) slots ∧ Chg (fun k => k = gt ∨ tS g gm T k) w w' := by
  have c : w.cell? ⟨gt, 65, none⟩ = some (.int .u64 now) := hu.cell (i := 65) (by omega)
  have cf := hu.frozen
  have o1 := one_setCell w gt 65 (.int .u64 ((now + 1 : Nat) : Int))
  have hn := hu.notS h
  have HT1 := Lib.hid (h.one o1 hn)
  have HU1 := Lib.hid (show TU (w.setCell ⟨gt, 65, none⟩ (.int .u64 ((now + 1 : Nat) : Int))) gt a last (now + 1) slots from (hu.set 65 (.int .u64 ((now + 1 : Nat) : Int))).congr (fun j hj => (turnF_now a last now slots (now + 1) j).symm))
  have HB1 := Lib.hid (bone hb o1 hgt hb.size)
  have HP := Lib.hid hp
  have HN := Lib.hid hn
  have HO := Lib.hid o1
  have f1 : IntKind.u64.wrap ((now : Int) + 1) = ((now + 1 : Nat) : Int) := by simp [IntKind.wrap, IntKind.bits, IntKind.signed]; omega
  clear hp hb h hu o1 hn
  have hB1 : B ≤ (w.setCell ⟨gt, 65, none⟩ (.int .u64 ((now + 1 : Nat) : Int))).heap.size := Nat.le_trans hB HO.out.size
  have HCT := Lib.hid (taskTick_in HP.out HB1.out HT1.out h0 hg hgm hB1 h64 (now + 1))
  have c' := HU1.out.cell (i := 65) (by omega)
  have c'' : (w.setCell ⟨gt, 65, none⟩ (.int .u64 ((now + 1 : Nat) : Int))).cell? ⟨gt, 65, none⟩ = some (.int .u64 ((now + 1 : Nat) : Int)) := c'
  clear c'
  go_enter Try.func24, Try.ntmps24
  go_wp2_with fail
  refine HCT.out.mono ?_
  rintro e w2 ⟨rfl, hT2, hC2⟩
  have HT2 := Lib.hid hT2
  have HC2 := Lib.hid hC2
  clear hT2 hC2 c c'' cf
  go_wp2_with fail
  go_ret
  refine ⟨rfl, HT2.out, HU1.out.of_block (HC2.out.block gt HU1.out.lt HN.out), ?_⟩
  exact (Chg.of_one (S := fun k => k = gt ∨ tS g gm T k) HO.out (.inl rfl)).trans HC2.out (fun k _ hk => .inr hk)

def maxTo (rs : List RegL) (m : Nat) : Nat := ((rs.take m).map (·.pr)).foldl max 0
theorem maxTo_next (rs : List RegL) {m : Nat} (hm : m < rs.length) : maxTo rs (m + 1) = max (maxTo rs m) rs[m].pr := by
  unfold maxTo
  rw [List.take_succ_eq_append_getElem hm, List.map_append, List.foldl_append]
  rfl
theorem maxTo_le (rs : List RegL) (b : Nat) (h : ∀ r ∈ rs, r.pr ≤ b) : ∀ m, m ≤ rs.length → maxTo rs m ≤ b
  | 0, _ => by simp [maxTo]
  | m + 1, hm => by
    rw [maxTo_next rs (by omega)]
    have := maxTo_le rs b h m (by omega)
    have := h rs[m] (List.getElem_mem _)
    omega
end
end Go.Proofs.Ytpjfnmmgfmfcfaa
