/- Whose turn it is: New, Now, Until, Tick, Bound, Pick. -/
import Derived.Test.YtiedenjcmkebaaaTskD
set_option linter.unusedVariables false
set_option linter.unusedSimpArgs false
namespace Go.Proofs.Ytiedenjcmkebaaa
open Go.RowKit
open Go.Maps (Keyed)

def turnF (a : Option Addr) (last : Nat → Nat) (now slots : Nat) (i : Nat) : Value :=
  if i = 0 then .pointer a else if i ≤ 64 then .int .u16 (last (i - 1)) else if i = 65 then .int .u64 now else .int .u64 slots
abbrev TU (w : World) (gt : Nat) (a : Option Addr) (last : Nat → Nat) (now slots : Nat) : Prop := w.rowIs gt 139 67 (turnF a last now slots)

section
variable {B : Nat} {w0 w w' : World} {g gm gt : Nat} {a : Option Addr} {rs : List RegL} {T : Nat → List TE} {last : Nat → Nat} {now slots : Nat}
theorem TT.one (h : TT B w g gm a T) {x : Nat} (o : One w w' (some x)) (hx : ¬ tS g gm T x) : TT B w' g gm a T :=
  ⟨h.tp.one o (fun e => hx (.inl e)) (fun e => hx (.inr (.inl e))), fun l t ht => (h.pr l t ht).of_block (o.block _ (h.pr l t ht).lt (fun e => hx (by
    injection e with e
    exact .inr (.inr ⟨l, t, ht, e.symm⟩)))), h.ok⟩
theorem TT.notS (h : TT B w g gm a T) {x : Nat} {cs : Array Value} {t : TypeId} {fr : Nat × Nat} (hx : w.heap[x]? = some (.cells cs t fr)) (h1 : t ≠ 143) (h2 : t ≠ 85) : ¬ tS g gm T x := fun hk => by
  rcases hk with e | e | ⟨l, t', ht, e⟩
  · exact (h.tp.ne_cells hx h1).1 e
  · exact (h.tp.ne_cells hx h1).2 e
  · have h3 := rowIs_arr (h.pr l t' ht)
    rw [e] at h3
    exact h2 (cells_type hx h3)
theorem TU.notS (hu : TU w gt a last now slots) (h : TT B w g gm a T) : ¬ tS g gm T gt := h.notS (rowIs_arr hu) (by decide) (by decide)

set_option maxRecDepth 20000 in
set_option maxHeartbeats 4000000 in
theorem turnNew_in (w : World) (a : Addr) : Calls Try.prog 14 #[.pointer (some a)] w fun e w' => ∃ gt, e = .returned (.pointer (some ⟨gt, 0, none⟩)) ∧ w.heap.size ≤ gt ∧ TU w' gt (some a) (fun _ => 0) 0 0 ∧ Below w.heap.size w w' := by
  obtain ⟨X, hX⟩ : ∃ X, X = rowArr 67 (turnF (some a) (fun _ => 0) 0 0) := ⟨_, rfl⟩
  have HX := Lib.hid hX
  clear hX
  go_enter Try.func14, Try.ntmps14
  go_wp2_with (refine wpList_buildTo rfl 139 _ rfl (some 6) rfl X ?hf ?_; case hf => (rw [HX.out]; kernel_rfl))
  go_ret
  refine ⟨_, rfl, Nat.le_refl _, rowIs_of_arr ?_, bnew _ _⟩
  rw [← HX.out]
  exact heap_alloc_last w (.cells X 139)
set_option maxHeartbeats 4000000 in
theorem turnNow_in (hu : TU w gt a last now slots) : Calls Try.prog 19 #[.pointer (some ⟨gt, 0, none⟩)] w fun e w' => e = .returned (.int .u64 now) ∧ w = w' := by
  have c : w.cell? ⟨gt, 65, none⟩ = some (.int .u64 now) := hu.cell (i := 65) (by omega)
  clear hu
  go_enter Try.func19, Try.ntmps19
  go_wp2_with fail
  go_ret
  exact ⟨rfl, rfl⟩
set_option maxHeartbeats 4000000 in
theorem turnUntil_in (hu : TU w gt a last now slots) (n : Nat) (hn : n ≤ 4294967295) (hb : now ≤ 1000000) : Calls Try.prog 18 #[.pointer (some ⟨gt, 0, none⟩), .int .u32 n] w fun e w' => e = .returned (.int .u64 ((now + min n 1048576 : Nat) : Int)) ∧ w = w' := by
  have HU := Lib.hid hu
  clear hu
  rcases (show n ≤ 1048576 ∨ 1048576 < n by omega) with h | h
  · have f1 : (n : Int) ≤ 1048576 := by omega
    have f2 : IntKind.u64.wrap (n : Int) = n := by simp [IntKind.wrap, IntKind.bits, IntKind.signed]; omega
    have f3 : IntKind.u64.wrap ((now : Int) + n) = (now : Int) + n := by simp [IntKind.wrap, IntKind.bits, IntKind.signed]; omega
    rw [Nat.min_eq_left h]
    go_enter Try.func18, Try.ntmps18
    go_wp2_with fail
    refine (turnNow_in HU.out).mono ?_
    rintro e w2 ⟨rfl, rfl⟩
    go_wp2_with fail
    go_ret
    exact ⟨by go_num, rfl⟩
  · have f1 : ¬ ((n : Int) ≤ 1048576) := by omega
    have f3 : IntKind.u64.wrap ((now : Int) + 1048576) = (now : Int) + 1048576 := by simp [IntKind.wrap, IntKind.bits, IntKind.signed]; omega
    rw [Nat.min_eq_right (Nat.le_of_lt h)]
    go_enter Try.func18, Try.ntmps18
    go_wp2_with fail
    refine (turnNow_in HU.out).mono ?_
    rintro e w2 ⟨rfl, rfl⟩
    go_wp2_with fail
    go_ret
    exact ⟨by go_num, rfl⟩
theorem turnF_now (a : Option Addr) (last : Nat → Nat) (now slots now' j : Nat) : turnF a last now' slots j = if j = 65 then .int .u64 now' else turnF a last now slots j := by
  by_cases h : j = 65
  · subst h; rfl
  · rw [if_neg h]; unfold turnF; simp [h]
set_option maxHeartbeats 4000000 in
theorem turnTick_in (hp : ConfP w0 a rs) (hb : Below w0.heap.size w0 w) (h : TT B w g gm a T) (hu : TU w gt a last now slots) (hgt : w0.heap.size ≤ gt) (h0 : w0.heap.size ≤ B) (hg : B ≤ g) (hgm : B ≤ gm) (hB : B ≤ w.heap.size) (h64 : rs.length ≤ 64) (hnow : now ≤ 1000000) :
    Calls Try.prog 16 #[.pointer (some ⟨gt, 0, none⟩), .pointer (some ⟨g, 0, none⟩)] w fun e w' => e = .returned (.int .i64 (cntT (tickB (now + 1)) T rs.length)) ∧ TT B w' g gm a (wakeT (tickB (now + 1)) T rs.length) ∧ TU w' gt a last (now + 1) slots ∧ Chg (fun k => k = gt ∨ tS g gm T k) w w' := by
  have c : w.cell? ⟨gt, 65, none⟩ = some (.int .u64 now) := hu.cell (i := 65) (by omega)
  have cf := hu.frozen
  have o1 := one_setCell w gt 65 (.int .u64 ((now + 1 : Nat) : Int))
  have hn := hu.notS h
  have HT1 := Lib.hid (h.one o1 hn)
  have HU1 := Lib.hid (show TU (w.setCell ⟨gt, 65, none⟩ (.int .u64 ((now + 1 : Nat) : Int))) gt a last (now + 1) slots from (hu.set 65 (.int .u64 ((now + 1 : Nat) : Int))).congr (fun j hj => (turnF_now a last now slots (now + 1) j).symm))
  have HB1 := Lib.hid (bone hb o1 hgt hb.size)
  have HP := Lib.hid hp
  have HN := Lib.hid hn
  have HO := Lib.hid o1
  have f1 : IntKind.u64.wrap ((now : Int) + 1) = ((now + 1 : Nat) : Int) := by simp [IntKind.wrap, IntKind.bits, IntKind.signed]; omega
  clear hp hb h hu o1 hn
  have hB1 : B ≤ (w.setCell ⟨gt, 65, none⟩ (.int .u64 ((now + 1 : Nat) : Int))).heap.size := Nat.le_trans hB HO.out.size
  have HCT := Lib.hid (taskTick_in HP.out HB1.out HT1.out h0 hg hgm hB1 h64 (now + 1))
  have c' := HU1.out.cell (i := 65) (by omega)
  have c'' : (w.setCell ⟨gt, 65, none⟩ (.int .u64 ((now + 1 : Nat) : Int))).cell? ⟨gt, 65, none⟩ = some (.int .u64 ((now + 1 : Nat) : Int)) := c'
  clear c'
  go_enter Try.func16, Try.ntmps16
  go_wp2_with fail
  refine HCT.out.mono ?_
  rintro e w2 ⟨rfl, hT2, hC2⟩
  have HT2 := Lib.hid hT2
  have HC2 := Lib.hid hC2
  clear hT2 hC2 c c'' cf
  go_wp2_with fail
  go_ret
  refine ⟨rfl, HT2.out, HU1.out.of_block (HC2.out.block gt HU1.out.lt HN.out), ?_⟩
  exact (Chg.of_one (S := fun k => k = gt ∨ tS g gm T k) HO.out (.inl rfl)).trans HC2.out (fun k _ hk => .inr hk)

def maxTo (rs : List RegL) (m : Nat) : Nat := ((rs.take m).map (·.pr)).foldl max 0
theorem maxTo_next (rs : List RegL) {m : Nat} (hm : m < rs.length) : maxTo rs (m + 1) = max (maxTo rs m) rs[m].pr := by
  unfold maxTo
  rw [List.take_succ_eq_append_getElem hm, List.map_append, List.foldl_append]
  rfl
theorem maxTo_le (rs : List RegL) (b : Nat) (h : ∀ r ∈ rs, r.pr ≤ b) : ∀ m, m ≤ rs.length → maxTo rs m ≤ b
  | 0, _ => by simp [maxTo]
  | m + 1, hm => by
    rw [maxTo_next rs (by omega)]
    have := maxTo_le rs b h m (by omega)
    have := h rs[m] (List.getElem_mem _)
    omega
set_option maxRecDepth 20000 in
set_option maxHeartbeats 8000000 in
theorem turnBound_in (hp : ConfP w0 a rs) (hb : Below w0.heap.size w0 w) (hu : TU w gt a last now slots) (h64 : rs.length ≤ 64) (hpr : ∀ r ∈ rs, r.pr ≤ 16) :
    Calls Try.prog 17 #[.pointer (some ⟨gt, 0, none⟩)] w fun e w' => e = .returned (.int .i64 ((maxTo rs rs.length * rs.length : Nat) : Int)) ∧ Below w.heap.size w w' := by
  have HP := Lib.hid hp
  have HB := Lib.hid hb
  have HU := Lib.hid hu
  have c0 : w.cell? ⟨gt, 0, none⟩ = some (.pointer a) := hu.cell (i := 0) (by omega)
  have HM := Lib.hid (maxTo_le rs 16 hpr)
  clear hp hb hu hpr
  go_enter Try.func17, Try.ntmps17
  go_wp2_with fail
  refine (HP.out.len w HB.out).mono ?_
  rintro e w2 ⟨rfl, rfl⟩
  go_wp2_with fail
  clear c0
  go_loopw [3, 14] (fun r3 r wx => ∃ m mx : Nat, m ≤ rs.length ∧ r = .int .i64 m ∧ r3 = .int .i64 mx ∧ mx = maxTo rs m ∧ Below w.heap.size w wx) (fun _ r _ => rs.length - (intOf r).toNat)
  case atStart => exact ⟨0, 0, Nat.zero_le _, rfl, rfl, rfl, Below.refl _ _⟩
  case round =>
    obtain ⟨m, mx, hm, rfl, rfl, hmx, hbr⟩ := hrel
    have HMX := Lib.hid hmx
    have HBR := Lib.hid hbr
    have hmx16 : mx ≤ 16 := by rw [hmx]; exact HM.out m hm
    have HUR := Lib.hid (HU.out.of_block (hbr.block gt HU.out.lt))
    have c0 : wr.cell? ⟨gt, 0, none⟩ = some (.pointer a) := HUR.out.cell (i := 0) (by omega)
    clear hmx hbr
    by_cases hmr : m < rs.length
    · have f1 : (m : Int) < rs.length := by omega
      go_wp2_with fail
      refine (HP.out.reg _ (HB.out.trans (HBR.out.mono HB.out.size)) m).mono ?_
      rintro e w3 ⟨r, rfl, hr, hb3⟩
      have hrm := hr m hmr rfl
      rw [inB_nat hmr]
      have hnx := maxTo_next rs hmr
      rw [← HMX.out, ← hrm] at hnx
      have HNX := Lib.hid hnx
      have HB3 := Lib.hid (HBR.out.trans (hb3.mono HBR.out.size))
      have hr16 : r.pr ≤ 16 := by have := HM.out (m + 1) (by omega); rw [hnx] at this; omega
      clear hr hrm hnx hb3 c0
      unfold regV regArr
      have hb4 := bnew w3 (.cells #[.string r.name, .int .u8 r.lab.1, .int .u16 r.lab.2, .int .i64 r.bl, .int .i64 r.no, .int .i64 r.fr, .int .i64 r.pr, .int .i64 r.op, .int .i64 r.cl] 43)
      have hreg := rowcell (heap_alloc_last w3 (.cells #[.string r.name, .int .u8 r.lab.1, .int .u16 r.lab.2, .int .i64 r.bl, .int .i64 r.no, .int .i64 r.fr, .int .i64 r.pr, .int .i64 r.op, .int .i64 r.cl] 43))
      have HB4 := Lib.hid (bnext HB3.out hb4)
      clear hb4
      rcases (show r.pr ≤ mx ∨ mx < r.pr by omega) with h | h
      · have g1 : (r.pr : Int) ≤ mx := by omega
        have g2 : max (mx : Int) r.pr = mx := by omega
        clear h
        go_wp2_with fail
        go_roundw
        case rel => exact ⟨m + 1, mx, by omega, by go_num, by first | rfl | go_num, by rw [HNX.out]; omega, HB4.out⟩
        case measure => simp [intOf]; omega
      · have g1 : ¬ ((r.pr : Int) ≤ mx) := by omega
        have g2 : max (mx : Int) r.pr = r.pr := by omega
        have g3 : (mx : Int) < r.pr := by omega
        have g4 : (mx : Int) ≤ r.pr := by omega
        go_wp2_with fail
        go_roundw
        case rel => exact ⟨m + 1, r.pr, by omega, by go_num, by first | rfl | go_num, by rw [HNX.out]; omega, HB4.out⟩
        case measure => simp [intOf]; omega
    · obtain rfl : m = rs.length := by omega
      have f1 : ¬ ((rs.length : Int) < rs.length) := by omega
      have hmul : mx * rs.length ≤ 16 * 64 := Nat.mul_le_mul hmx16 h64
      have f2 : IntKind.i64.wrap ((mx : Int) * rs.length) = (mx : Int) * rs.length := by
        rw [IntKind.wrap_i64]
        rw [show (mx : Int) * rs.length = ((mx * rs.length : Nat) : Int) by simp]
        omega
      clear hmul
      go_wp2_with fail
      refine (HP.out.len _ (HB.out.trans (HBR.out.mono HB.out.size))).mono ?_
      rintro e w3 ⟨rfl, rfl⟩
      go_wp2_with fail
      go_ret
      exact ⟨by rw [← HMX.out]; go_num, HBR.out⟩
end
end Go.Proofs.Ytiedenjcmkebaaa
