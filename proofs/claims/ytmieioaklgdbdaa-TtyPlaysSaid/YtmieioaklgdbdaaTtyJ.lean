/- The law TtyPlays. -/
import Derived.Test.YtmieioaklgdbdaaTtyI
set_option linter.unusedVariables false
set_option linter.unusedSimpArgs false
namespace Go.Proofs.Ytmieioaklgdbdaa
open Go.RowKit

theorem tact_arg {W : World} {xs : List Value} {n : Nat} (h : ∀ i, i < n → ∃ m, Okay Try.prog W m 31 ((xs.drop (i * 5)).take 5)) (i : Nat) (hi : i < n) :
    ∃ (kd lb : Int) (A : Option Addr) (c : Nat) (zs : List Int) (x : Int) (raw : Bool), (xs.drop (i * 5)).take 5 = [.int .u8 kd, .int .u8 lb, .slice A zs.length c, .int .i64 x, .bool raw] ∧ (0 ≤ kd ∧ kd ≤ 255) ∧ (0 ≤ lb ∧ lb ≤ 255) ∧ SI W .u8 (.slice A zs.length c) zs ∧ (-9223372036854775808 ≤ x ∧ x ≤ 9223372036854775807) := by
  obtain ⟨m, ho⟩ := h i hi
  have hk : cellKinds Try.prog 3 31 = some [⟨0, .u8, 0⟩, ⟨0, .u8, 0⟩, ⟨3, .i64, 5⟩, ⟨0, .i64, 0⟩, ⟨1, .i64, 0⟩] := by kernel_rfl
  have hf := Okay.fits 3 _ m _ _ ho hk
  obtain ⟨v0, us0, e0, ⟨kd, h0e, h0⟩, hf0⟩ := hf.cons
  obtain ⟨v1, us1, e1, ⟨lb, h1e, h1⟩, hf1⟩ := hf0.cons
  obtain ⟨v2, us2, e2, h2, hf2⟩ := hf1.cons
  obtain ⟨v3, us3, e3, ⟨x, h3e, h3⟩, hf3⟩ := hf2.cons
  obtain ⟨v4, us4, e4, ⟨raw, h4e⟩, hf4⟩ := hf3.cons
  have e5 := hf4.nil
  obtain ⟨zs, hz⟩ := SI.of_fits (k := .u8) Try.underlying5 (by kernel_rfl) h2
  obtain ⟨A, c, e6, _, _⟩ := hz.sr.form
  rw [e6] at hz
  refine ⟨kd, lb, A, c, zs, x, raw, ?_, wf_u8 h0, wf_u8 h1, hz, wf_i64 h3⟩
  rw [e0, e1, e2, e3, e4, e5, h0e, h1e, h3e, h4e, e6]
theorem tact_five : Try.prog.cellsOf 31 = 5 := by kernel_rfl
theorem tact_cells {w : World} {A : Option Addr} {n cap : Nat} {xs : List Value} (h : SR w (.slice A n cap) n 5 xs) (i : Nat) (hi : i < n) {a b c d e : Value} (he : (xs.drop (i * 5)).take 5 = [a, b, c, d, e]) :
    ∃ g off, A = some ⟨g, off, none⟩ ∧ g < w.heap.size ∧ w.cell? ⟨g, off + i * 5, none⟩ = some a ∧ w.cell? ⟨g, off + i * 5 + 1, none⟩ = some b ∧ w.cell? ⟨g, off + i * 5 + 2, none⟩ = some c ∧ w.cell? ⟨g, off + i * 5 + 3, none⟩ = some d ∧ w.cell? ⟨g, off + i * 5 + 4, none⟩ = some e := by
  rcases h.cases with ⟨h0, _⟩ | ⟨_, g, off, c1, hv, _, _, hg, hc⟩
  · omega
  cases hv
  have key : ∀ j, j < 5 → w.cell? ⟨g, off + i * 5 + j, none⟩ = [a, b, c, d, e][j]? := fun j hj => by
    rw [← he, List.getElem?_take_of_lt hj, List.getElem?_drop, Nat.add_assoc, hc _ (by omega)]
  exact ⟨g, off, rfl, hg, key 0 (by omega), key 1 (by omega), key 2 (by omega), key 3 (by omega), key 4 (by omega)⟩
/-- The program's consoles and the document's share no block. -/
structure SepR (vs : Nat → Value) (g : Nat) (ms : Nat → Value) (gm : Nat) : Prop where
  ne : g ≠ gm
  left : ∀ i, i < 64 → (vs i).ownBlock ≠ some gm
  right : ∀ j, j < 4 → (ms j).ownBlock ≠ some g
  both : ∀ i j k, i < 64 → j < 4 → (vs i).ownBlock = some k → (ms j).ownBlock ≠ some k
structure TY (W w : World) (bT g gm base : Nat) (vs ms : Nat → Value) (ins : Nat → List Int) (lost out : Nat → Int) (cnt : Int) : Prop where
  tt : TT w bT g vs ins lost out
  rm : RM w base gm ms ins lost out
  sep : SepR vs g ms gm
  bl : Below W.heap.size W w
  ls : ∀ l, l < 4 → 0 ≤ lost l ∧ lost l ≤ cnt ∧ 0 ≤ out l ∧ out l ≤ cnt
  lo : W.heap.size ≤ bT ∧ W.heap.size ≤ gm ∧ W.heap.size ≤ base
section
variable {W w w1 w2 : World} {bT g gm base l : Nat} {vs ms : Nat → Value} {ins ins' : Nat → List Int} {lost out lost' out' : Nat → Int} {cnt : Int} {u : Value}
theorem TT.chg {S : Nat → Prop} (h : TT w bT g vs ins lost out) (c : Chg S w w1) (h1 : ¬ S g) (h2 : ∀ i, i < 64 → ∀ k, (vs i).ownBlock = some k → ¬ S k) : TT w1 bT g vs ins lost out :=
  ⟨h.row.of_block (c.block _ h.row.lt h1), h.le, fun i hi => own_keep (h.own i hi) (fun k hk => c.block k ((h.own i hi).lt k hk).2 (h2 i hi k hk)), h.wf, h.small, h.apart, h.far⟩
theorem TY.left (h : TY W w bT g gm base vs ms ins lost out cnt) (hl : l < 64) (hu : ∀ k, u.ownBlock = some k → (vs l).ownBlock = some k ∨ w.heap.size ≤ k) (hf : Foot w w1 g (vs l).ownBlock) (hb : Below bT w w1) :
    RM w1 base gm ms ins lost out ∧ SepR (upd vs l u) g ms gm ∧ Below W.heap.size W w1 := by
  have hgm := h.rm.row.lt
  refine ⟨⟨h.rm.row.of_block (hf.block gm hgm h.sep.ne.symm (fun e => h.sep.left l hl e.symm)), fun j hj => own_keep (h.rm.own j hj) (fun k hk => hf.block k ((h.rm.own j hj).lt k hk).2 (fun e => h.sep.right j hj (by rw [← e]; exact hk)) (fun e => h.sep.both l j k hl hj e.symm hk)), h.rm.ap, ⟨h.rm.lt.1, Nat.le_trans h.rm.lt.2 hf.size⟩, h.rm.wf⟩, ⟨h.sep.ne, fun i hi => ?_, h.sep.right, fun i j k hi hj hk => ?_⟩, h.bl.trans (hb.mono h.lo.1)⟩
  · unfold upd
    split
    · intro e
      rcases hu gm e with e | e
      · exact h.sep.left l hl e
      · omega
    · exact h.sep.left i hi
  · unfold upd at hk
    split at hk
    · rcases hu k hk with e | e
      · exact h.sep.both l j k hl hj e
      · intro e2
        have := ((h.rm.own j hj).lt k e2).2
        omega
    · exact h.sep.both i j k hi hj hk
theorem TY.right (tt : TT w1 bT g vs ins' lost' out') (rm : RM w1 base gm ms ins lost out) (sep : SepR vs g ms gm) (bl : Below W.heap.size W w1) (lo : W.heap.size ≤ bT ∧ W.heap.size ≤ gm ∧ W.heap.size ≤ base) (hl : l < 4) (hu : ∀ k, u.ownBlock = some k → (ms l).ownBlock = some k ∨ w1.heap.size ≤ k) (c : Chg (rmset gm (ms l)) w1 w2) :
    TT w2 bT g vs ins' lost' out' ∧ SepR vs g (upd ms l u) gm ∧ Below W.heap.size W w2 := by
  refine ⟨tt.chg c (fun e => by rcases e with e | e; exact sep.ne e; exact sep.right l hl e) (fun i hi k hk e => by rcases e with e | e; exact sep.left i hi (by rw [← e]; exact hk); exact sep.both i l k hi hl hk e), ⟨sep.ne, sep.left, fun j hj => ?_, fun i j k hi hj hk => ?_⟩, Chg.go bl c (fun k e => by
    rcases e with e | e
    · rw [e]; exact lo.2.1
    · exact Nat.le_trans lo.2.2 ((rm.own l hl).lt k e).1) bl.size⟩
  · unfold upd
    split
    · intro e
      rcases hu g e with e | e
      · exact sep.right l hl e
      · have := tt.row.lt
        omega
    · exact sep.right j hj
  · unfold upd
    split
    · intro e
      rcases hu k e with e | e
      · exact sep.both i l k hi hl hk e
      · have := ((tt.own i hi).lt k hk).2
        omega
    · exact sep.both i j k hi hj hk
theorem TY.more {cnt' : Int} (h : TY W w bT g gm base vs ms ins lost out cnt) (hc : cnt ≤ cnt') : TY W w bT g gm base vs ms ins lost out cnt' :=
  ⟨h.tt, h.rm, h.sep, h.bl, fun l hl => by have := h.ls l hl; omega, h.lo⟩
theorem TY.keep (h : TY W w bT g gm base vs ms ins lost out cnt) (hb : Below w.heap.size w w1) : TY W w1 bT g gm base vs ms ins lost out cnt := ⟨h.tt.kept hb, h.rm.keep hb, h.sep, bnext h.bl hb, h.ls, h.lo⟩
end
theorem ttyOut_wf {n : Int} {b : List Int} (h : ∀ z ∈ b, 0 ≤ z ∧ z ≤ 255) : ∀ z ∈ ttyOut n b, 0 ≤ z ∧ z ≤ 255 := by
  intro z hz
  unfold ttyOut at hz
  split at hz
  · cases hz
  · split at hz
    · exact h z (List.mem_of_mem_take hz)
    · cases hz
def actR (kd lb : Int) (v : Value) (x : Int) (raw : Bool) (j : Nat) : Value := [Value.int .u8 kd, .int .u8 lb, v, .int .i64 x, .bool raw].getD j undef
def mZero : Array Value := ((List.range 12).map (rmCell (fun _ => .slice none 0 0) (fun _ => 0) (fun _ => 0))).toArray
set_option maxRecDepth 100000 in
set_option maxHeartbeats 20000000 in
theorem ttyPlays_walk (W : World) (v0 : Value) (o0 : Arg Try.prog W 22 v0) :
    Calls Try.prog 3 #[v0] W fun e w' => e = .returned (.bool true) ∧ Below W.heap.size W w' := by
  obtain ⟨N, xs, hsr, hact⟩ := SR.of_arg Try.underlying22 (by rw [tact_five]; omega) o0
  rw [tact_five] at hsr hact
  clear o0
  obtain ⟨A, cap, rfl, hlc, hcm⟩ := hsr.form
  have hact := fun i hi => tact_arg hact i hi
  have HS := Lib.hid hsr
  have HA := Lib.hid hact
  have hmz : (Try.prog.info? 29).bind (·.zero) = some (.agg mZero) := by kernel_rfl
  have HMZ := Lib.hid hmz
  clear hsr hact hmz
  go_enter Try.func3, Try.ntmps3
  go_wp2_with fail
  refine (ttyAwake_any W).mono ?_
  rintro e w0 ⟨rfl, hb0⟩
  have HB0 := Lib.hid hb0
  clear hb0
  go_wp2_with fail
  refine (ttyNew_any w0).mono ?_
  rintro e w1 ⟨rfl, ht1, hb1⟩
  obtain ⟨g, hg⟩ : ∃ g, g = w0.heap.size := ⟨_, rfl⟩
  rw [← hg] at ht1 ⊢
  have HT1 := Lib.hid ht1
  have HB1 := Lib.hid (bnext HB0.out hb1)
  have HG := Lib.hid (show W.heap.size ≤ g from by rw [hg]; exact HB0.out.size)
  clear ht1 hb1 hg
  go_wp2_with (with_reducible refine wpList_stop (some 4) rfl ?_)
  refine Lib.hid ?_
  refine wpList_allocTo rfl 29 rfl (some 4) rfl (.agg mZero) HMZ.out ?_
  obtain ⟨w2, hw2⟩ : ∃ w2, w2 = w1.alloc (.cells (Value.agg mZero).cells 29) := ⟨_, rfl⟩
  rw [← hw2]
  have hb2 : Below w1.heap.size w1 w2 := by rw [hw2]; exact bnew _ _
  have hr2 : w2.rowIs w1.heap.size 29 12 (rmCell (fun _ => .slice none 0 0) (fun _ => 0) (fun _ => 0)) := ⟨mZero, by rw [hw2]; exact heap_alloc_last _ _, by simp [mZero], fun i hi => by simp [mZero, hi]⟩
  have HTY0 := Lib.hid (show TY W w2 g g w1.heap.size (w1.heap.size + 1) (fun _ => .slice none 0 0) (fun _ => .slice none 0 0) (fun _ => []) (fun _ => 0) (fun _ => 0) 0 from
    ⟨HT1.out.kept hb2, ⟨hr2, fun l _ => World.ownsRow_nil _ _ _ _, (fun i j k _ _ _ h => by cases h), ⟨by omega, hr2.lt⟩, (fun i _ z hz => by cases hz)⟩, ⟨Nat.ne_of_lt HT1.out.row.lt, (fun i _ h => by cases h), (fun i _ h => by cases h), (fun i j k _ _ h => by cases h)⟩, bnext HB1.out hb2, (fun l _ => ⟨by omega, by omega, by omega, by omega⟩), ⟨HG.out, HB1.out.size, by have := HB1.out.size; omega⟩⟩)
  clear hw2 hb2 hr2
  obtain ⟨gm, hgm⟩ : ∃ gm, gm = w1.heap.size := ⟨_, rfl⟩
  obtain ⟨base, hbs⟩ : ∃ base, base = w1.heap.size + 1 := ⟨_, rfl⟩
  rw [← hbs, ← hgm] at HTY0
  rw [← hgm]
  clear hgm hbs HT1 HB1 HB0
  go_simp
  go_wp2_with fail
  go_loopw [25] (fun r wx => ∃ (i : Nat) (vs ms : Nat → Value) (ins : Nat → List Int) (lost out : Nat → Int), i ≤ N ∧ r = .int .i64 i ∧ TY W wx g g gm base vs ms ins lost out (i * 300 : Nat)) (fun r _ => N - (intOf r).toNat)
  case atStart => exact ⟨0, _, _, _, _, _, by omega, rfl, HTY0.out⟩
  case round =>
    obtain ⟨i, vs, ms, ins, lost, out, hi, rfl, hty⟩ := hrel
    have HP := Lib.hid hty
    clear hty HTY0
    by_cases hlt : i < N
    · have g1 : (i : Int) < N := by omega
      obtain ⟨kd, lb, Ab, cb, zs, x, raw, he, hkd, hlb, hzs, hx⟩ := HA.out i hlt
      obtain ⟨ga, off, rfl, hga, c0, c1, c2, c3, c4⟩ := tact_cells HS.out i hlt he
      have hBW := HP.out.bl
      have a0 := (hBW.cell (by exact hga)).trans c0
      have a1 := (hBW.cell (by exact hga)).trans c1
      have a2 := (hBW.cell (by exact hga)).trans c2
      have a3 := (hBW.cell (by exact hga)).trans c3
      have a4 := (hBW.cell (by exact hga)).trans c4
      have HZS := Lib.hid hzs
      clear c0 c1 c2 c3 c4 he hBW hga hzs
      have hbN := bnew wr (.cells #[.int .u8 kd, .int .u8 lb, .slice Ab zs.length cb, .int .i64 x, .bool raw] 31)
      have HP2 := Lib.hid (HP.out.keep hbN)
      have hrow := heap_alloc_last wr (.cells #[.int .u8 kd, .int .u8 lb, .slice Ab zs.length cb, .int .i64 x, .bool raw] 31)
      by_cases h80 : 80 < i
      · have g2 : (80 : Int) < (i : Int) := by omega
        clear hbN hrow
        go_wp2_with fail
        go_ret
        exact ⟨rfl, HP2.out.bl⟩
      have g2 : decide ((80 : Int) < (i : Int)) = false := by rw [decide_eq_false_iff_not]; omega
      by_cases h300 : 300 < zs.length
      · have g3 : (300 : Int) < (zs.length : Int) := by omega
        clear hbN hrow
        go_wp2_with fail
        go_ret
        exact ⟨rfl, HP2.out.bl⟩
      have g3 : decide ((300 : Int) < (zs.length : Int)) = false := by rw [decide_eq_false_iff_not]; omega
      obtain ⟨lab, hlab⟩ : ∃ lab : Nat, (lab : Int) = lb % 4 := ⟨(lb % 4).toNat, by omega⟩
      have l1 : lb % 4 = (lab : Int) := hlab.symm
      have l2 : lb.tmod 4 = (lab : Int) := by rw [Int.tmod_eq_emod_of_nonneg (by omega)]; omega
      have hl4 : lab < 4 := by omega
      have l3 : (lab : Int) < 4 := by omega
      have l4 : IntKind.u8.wrap (lab : Int) = lab := by simp [IntKind.wrap, IntKind.bits, IntKind.signed]; omega
      have l5 : IntKind.i64.wrap (lab : Int) = lab := by simp [IntKind.wrap, IntKind.bits, IntKind.signed]; omega
      clear hlab
      go_upto_region 11 with fail
      obtain ⟨wA, hwA⟩ : ∃ wA, wA = wr.alloc (.cells #[.int .u8 kd, .int .u8 lb, .slice Ab zs.length cb, .int .i64 x, .bool raw] 31) := ⟨_, rfl⟩
      rw [← hwA] at HP2 hrow ⊢
      have hq := rowlt hrow
      have HQ := Lib.hid (show (g < wr.heap.size ∧ gm < wr.heap.size ∧ W.heap.size ≤ wr.heap.size) ∧ (∀ l, l < 64 → (vs l).ownBlock ≠ some wr.heap.size) ∧ (∀ l, l < 4 → (ms l).ownBlock ≠ some wr.heap.size) from
        ⟨⟨HP.out.tt.row.lt, HP.out.rm.row.lt, HP.out.bl.size⟩, fun l hl e => Nat.lt_irrefl _ ((HP.out.tt.own l hl).lt _ e).2, fun l hl e => Nat.lt_irrefl _ ((HP.out.rm.own l hl).lt _ e).2⟩)
      clear hwA hbN HP a0 a1 a2 a3 a4
      obtain ⟨q, hqq⟩ : ∃ q, q = wr.heap.size := ⟨_, rfl⟩
      rw [← hqq] at hrow hq HQ ⊢
      clear hqq
      have HROW := Lib.hid (show wA.rowIs q 31 5 (actR kd lb (.slice Ab zs.length cb) x raw) from ⟨_, hrow, rfl, fun j hj => by
        have : j = 0 ∨ j = 1 ∨ j = 2 ∨ j = 3 ∨ j = 4 := by omega
        rcases this with rfl | rfl | rfl | rfl | rfl <;> rfl⟩)
      clear hrow hq
      have q0 : wA.cell? ⟨q, 0, none⟩ = some (.int .u8 kd) := HROW.out.cell (i := 0) (by omega)
      have hkd0 := hkd.1
      have hkd1 := hkd.2
      have hz300 : zs.length ≤ 300 := by omega
      have HI := Lib.hid (show i ≤ 80 from by omega)
      clear h80 h300 g2 g3 hkd hlb l1 l2 l4
      go_upto_block 2 with fail
      clear q0
      obtain ⟨k5, hk5⟩ : ∃ k5, k5 = kd % 5 := ⟨_, rfl⟩
      have hk50 : 0 ≤ k5 := by omega
      have hk51 : k5 < 5 := by omega
      rw [← hk5]
      clear hk5
      go_cut [] (fun wx => ∃ (vs' ms' : Nat → Value) (ins' : Nat → List Int) (lost' out' : Nat → Int), TY W wx g g gm base vs' ms' ins' lost' out' ((i + 1) * 300 : Nat))
      case first =>
        by_cases k2 : k5 = 2
        · as_aux_lemma =>
            subst k2
            have q3 : wA.cell? ⟨q, 3, none⟩ = some (.int .i64 x) := HROW.out.cell (i := 3) (by omega)
            have q4 : wA.cell? ⟨q, 4, none⟩ = some (.bool raw) := HROW.out.cell (i := 4) (by omega)
            go_upto_if 64 with fail
            go_cut [9] (fun s9 wx => ∃ y : Int, s9 = .int .i64 y ∧ wx = wA)
            case first =>
              cases raw
              · go_wp2_with fail
                go_meet
                exact ⟨_, rfl, rfl⟩
              · go_wp2_with fail
                go_meet
                exact ⟨_, rfl, rfl⟩
            case rest =>
              obtain ⟨y, rfl, rfl⟩ := hcut
              clear q3 q4
              go_at_K
              go_step
              by_cases hn : y < 0
              · go_wp2_with fail
                refine (ttyRead_out g (lab : Int) y (.inr hn) _).mono ?_
                rintro e w8 ⟨rfl, rfl⟩
                go_wp2_with fail
                refine (refRead_neg gm _ y hn _).mono ?_
                rintro e w9 ⟨rfl, rfl⟩
                have hts1 := (SI.nil w9 .u8).toString (P := Try.prog) Try.underlying26 Try.underlying5 Try.underlying9
                obtain ⟨sT, hsT⟩ : ∃ sT, sT = strOfNums [] := ⟨_, rfl⟩
                rw [← hsT] at hts1
                clear hsT
                go_wp2_with fail
                go_meet
                exact ⟨vs, ms, ins, lost, out, HP2.out.more (by omega)⟩
              · have hy0 : 0 ≤ y := by omega
                go_wp2_with fail
                refine (ttyRead_any lab (by omega) y hy0 g g vs ins lost out _ HP2.out.tt (Nat.le_of_lt HP2.out.tt.row.lt)).mono ?_
                rintro e w8 ⟨u, v, rfl, hv, ht8, hb8, hf8, hu8⟩
                obtain ⟨hr8, hs8, hbl8⟩ := HP2.out.left (l := lab) (by omega) hu8 (hf8.weaken _) hb8
                have HV8 := Lib.hid hv
                have HT8 := Lib.hid ht8
                have HR8 := Lib.hid hr8
                have HS8 := Lib.hid hs8
                have HBL8 := Lib.hid hbl8
                obtain ⟨A1, c1, hform⟩ := own_form hv
                subst hform
                obtain ⟨k1, hk1⟩ : ∃ k1, k1 = (ttyOut y (ins lab)).length := ⟨_, rfl⟩
                rw [← hk1]
                have HK1 := Lib.hid hk1
                obtain ⟨cd, hcd⟩ : ∃ cd, cd = ttyCode y (ins lab) := ⟨_, rfl⟩
                rw [← hcd]
                have HCD := Lib.hid hcd
                clear hv ht8 hb8 hf8 hu8 hr8 hs8 hbl8 hk1 hcd
                go_wp2_with fail
                refine (refRead_in HR8.out lab hl4 y hy0 (HP2.out.tt.small lab (by omega))).mono ?_
                rintro e w9 ⟨u2, v2, rfl, hv2, hr9, hc9, hu9⟩
                obtain ⟨ht9, hs9, hbl9⟩ := TY.right HT8.out HR8.out HS8.out HBL8.out HP2.out.lo hl4 hu9 (hc9.mono' (fun k e => .inl e))
                have HTY := Lib.hid (show TY W w9 g g gm base (upd vs lab u) (upd ms lab u2) (upd ins lab (ttyRest y (ins lab))) lost out ((i + 1) * 300 : Nat) from TY.more ⟨ht9, hr9, hs9, hbl9, HP2.out.ls, HP2.out.lo⟩ (by omega))
                have hwf := ttyOut_wf (n := y) (HP2.out.tt.wf lab (by omega))
                have hv1 := own_keep HV8.out (fun k hk => hc9.block k ((HV8.out.lt k hk).2) (fun e => by
                  have h1 := (HV8.out.lt k hk).1
                  have h2 := HP2.out.rm.row.lt
                  omega))
                have hts1 := (SI.of_own hv1 hwf).toString (P := Try.prog) Try.underlying26 Try.underlying5 Try.underlying9
                have hts2 := (SI.of_own hv2 hwf).toString (P := Try.prog) Try.underlying26 Try.underlying5 Try.underlying9
                obtain ⟨A2, c2, hform⟩ := own_form hv2
                subst hform
                rw [← HK1.out] at hts1 hts2 ⊢
                rw [← HCD.out]
                obtain ⟨sT, hsT⟩ : ∃ sT, sT = strOfNums (ttyOut y (ins lab)) := ⟨_, rfl⟩
                rw [← hsT] at hts1 hts2
                clear hv2 hr9 hc9 hu9 ht9 hs9 hbl9 hwf hv1 hsT
                go_wp2_with fail
                go_meet
                exact ⟨_, _, _, _, _, HTY.out⟩
        by_cases k3 : k5 = 3
        · as_aux_lemma =>
            have nk2 : (k5 == 2) = false := by rw [beq_eq_false_iff_ne]; exact k2
            subst k3
            have q3 : wA.cell? ⟨q, 3, none⟩ = some (.int .i64 x) := HROW.out.cell (i := 3) (by omega)
            have q4 : wA.cell? ⟨q, 4, none⟩ = some (.bool raw) := HROW.out.cell (i := 4) (by omega)
            go_upto_if 64 with fail
            go_cut [9] (fun s9 wx => ∃ y : Int, s9 = .int .i64 y ∧ wx = wA)
            case first =>
              cases raw
              · go_wp2_with fail
                go_meet
                exact ⟨_, rfl, rfl⟩
              · go_wp2_with fail
                go_meet
                exact ⟨_, rfl, rfl⟩
            case rest =>
              obtain ⟨y, rfl, rfl⟩ := hcut
              clear q3 q4
              go_at_K
              go_step
              by_cases hn : y < 0
              · go_wp2_with fail
                refine (ttyRead_out g (lab : Int) y (.inr hn) _).mono ?_
                rintro e w8 ⟨rfl, rfl⟩
                go_wp2_with fail
                refine (refRead_neg gm _ y hn _).mono ?_
                rintro e w9 ⟨rfl, rfl⟩
                have hts1 := (SI.nil w9 .u8).toString (P := Try.prog) Try.underlying26 Try.underlying5 Try.underlying9
                obtain ⟨sT, hsT⟩ : ∃ sT, sT = strOfNums [] := ⟨_, rfl⟩
                rw [← hsT] at hts1
                clear hsT
                go_wp2_with fail
                go_meet
                exact ⟨vs, ms, ins, lost, out, HP2.out.more (by omega)⟩
              · have hy0 : 0 ≤ y := by omega
                go_wp2_with fail
                refine (ttyRead_any lab (by omega) y hy0 g g vs ins lost out _ HP2.out.tt (Nat.le_of_lt HP2.out.tt.row.lt)).mono ?_
                rintro e w8 ⟨u, v, rfl, hv, ht8, hb8, hf8, hu8⟩
                obtain ⟨hr8, hs8, hbl8⟩ := HP2.out.left (l := lab) (by omega) hu8 (hf8.weaken _) hb8
                have HV8 := Lib.hid hv
                have HT8 := Lib.hid ht8
                have HR8 := Lib.hid hr8
                have HS8 := Lib.hid hs8
                have HBL8 := Lib.hid hbl8
                obtain ⟨A1, c1, hform⟩ := own_form hv
                subst hform
                obtain ⟨k1, hk1⟩ : ∃ k1, k1 = (ttyOut y (ins lab)).length := ⟨_, rfl⟩
                rw [← hk1]
                have HK1 := Lib.hid hk1
                obtain ⟨cd, hcd⟩ : ∃ cd, cd = ttyCode y (ins lab) := ⟨_, rfl⟩
                rw [← hcd]
                have HCD := Lib.hid hcd
                clear hv ht8 hb8 hf8 hu8 hr8 hs8 hbl8 hk1 hcd
                go_wp2_with fail
                refine (refRead_in HR8.out lab hl4 y hy0 (HP2.out.tt.small lab (by omega))).mono ?_
                rintro e w9 ⟨u2, v2, rfl, hv2, hr9, hc9, hu9⟩
                obtain ⟨ht9, hs9, hbl9⟩ := TY.right HT8.out HR8.out HS8.out HBL8.out HP2.out.lo hl4 hu9 (hc9.mono' (fun k e => .inl e))
                have HTY := Lib.hid (show TY W w9 g g gm base (upd vs lab u) (upd ms lab u2) (upd ins lab (ttyRest y (ins lab))) lost out ((i + 1) * 300 : Nat) from TY.more ⟨ht9, hr9, hs9, hbl9, HP2.out.ls, HP2.out.lo⟩ (by omega))
                have hwf := ttyOut_wf (n := y) (HP2.out.tt.wf lab (by omega))
                have hv1 := own_keep HV8.out (fun k hk => hc9.block k ((HV8.out.lt k hk).2) (fun e => by
                  have h1 := (HV8.out.lt k hk).1
                  have h2 := HP2.out.rm.row.lt
                  omega))
                have hts1 := (SI.of_own hv1 hwf).toString (P := Try.prog) Try.underlying26 Try.underlying5 Try.underlying9
                have hts2 := (SI.of_own hv2 hwf).toString (P := Try.prog) Try.underlying26 Try.underlying5 Try.underlying9
                obtain ⟨A2, c2, hform⟩ := own_form hv2
                subst hform
                rw [← HK1.out] at hts1 hts2 ⊢
                rw [← HCD.out]
                obtain ⟨sT, hsT⟩ : ∃ sT, sT = strOfNums (ttyOut y (ins lab)) := ⟨_, rfl⟩
                rw [← hsT] at hts1 hts2
                clear hv2 hr9 hc9 hu9 ht9 hs9 hbl9 hwf hv1 hsT
                go_wp2_with fail
                go_meet
                exact ⟨_, _, _, _, _, HTY.out⟩
        by_cases k4 : k5 = 4
        · as_aux_lemma =>
            have nk2 : (k5 == 2) = false := by rw [beq_eq_false_iff_ne]; exact k2
            have nk3 : (k5 == 3) = false := by rw [beq_eq_false_iff_ne]; exact k3
            subst k4
            have q2 : wA.cell? ⟨q, 2, none⟩ = some (.slice Ab zs.length cb) := HROW.out.cell (i := 2) (by omega)
            go_wp2_with fail
            have hls := HP2.out.ls lab hl4
            refine (ttyWrite_in lab (by omega) g g vs ins lost out Ab zs.length cb _ HP2.out.tt (by omega) ⟨by omega, by have := HI.out; omega⟩).mono ?_
            rintro e w8 ⟨rfl, ht8, hb8, hf8⟩
            obtain ⟨hr8, hs8, hbl8⟩ := HP2.out.left (l := lab) (u := vs lab) (by omega) (fun k hk => .inl hk) (hf8.weaken _) hb8
            rw [upd_self] at hs8
            have HROW8 := Lib.hid (HROW.out.of_block (hf8.block q HROW.out.lt (fun e => by have := HQ.out.1.1; omega) (by simp)))
            have HT8 := Lib.hid ht8
            have HR8 := Lib.hid hr8
            have HS8 := Lib.hid hs8
            have HBL8 := Lib.hid hbl8
            obtain ⟨ol, hol⟩ : ∃ ol, ol = out lab := ⟨_, rfl⟩
            have ho0 : 0 ≤ ol := by omega
            have ho1 : ol ≤ 100000 := by have := HI.out; omega
            have HOL := Lib.hid hol
            have d2 : (World.drew w8).cell? ⟨gm, lab * 3 + 2, none⟩ = some (.int .i64 ol) := by rw [hol]; exact (HR8.out.keep (drewb _)).c2 hl4
            have q5 : (World.drew w8).cell? ⟨q, 2, none⟩ = some (.slice Ab zs.length cb) := (HROW8.out.drew).cell (i := 2) (by omega)
            have df := (HR8.out.keep (drewb _)).row.frozen
            clear ht8 hb8 hf8 hr8 hs8 hbl8 hol hls q2
            go_upto_region 25 with fail
            go_region
            obtain ⟨w9, hw9⟩ : ∃ w9, w9 = World.drew (w8.setCell ⟨gm, lab * 3 + 2, none⟩ (.int .i64 (ol + zs.length))) := ⟨_, rfl⟩
            rw [← hw9]
            have ew9 : w9 = (World.drew w8).setCell ⟨gm, lab * 3 + 2, none⟩ (.int .i64 (ol + zs.length)) := hw9
            have HRM9 := Lib.hid (show RM w9 base gm ms ins lost (upd out lab (ol + zs.length)) from by rw [ew9]; exact (HR8.out.keep (drewb _)).setOut hl4 (ol + zs.length))
            have ho9 : One (World.drew w8) w9 (some gm) := by rw [ew9]; exact one_setCell (World.drew w8) gm (lab * 3 + 2) (.int .i64 (ol + zs.length))
            clear hw9 ew9
            obtain ⟨ht9, hs9, hbl9⟩ := TY.right (HT8.out.kept (drewb _)) (HR8.out.keep (drewb _)) HS8.out (bnext HBL8.out (drewb _)) HP2.out.lo hl4 (u := ms lab) (fun k hk => .inl hk) ((Chg.of_one ho9 (.inl rfl)))
            rw [upd_self] at hs9
            rw [← HOL.out] at ht9
            have HTY := Lib.hid (show TY W w9 g g gm base vs ms ins lost (upd out lab (ol + zs.length)) ((i + 1) * 300 : Nat) from ⟨ht9, HRM9.out, hs9, hbl9, fun l hl => by
              have h1 := HP2.out.ls l hl
              have h2 := HOL.out
              unfold upd
              split
              · rename_i e
                subst e
                omega
              · omega, HP2.out.lo⟩)
            have q6 : w9.cell? ⟨q, 2, none⟩ = some (.slice Ab zs.length cb) := ((HROW8.out.drew).of_block (ho9.block q HROW8.out.drew.lt (fun e => by cases e; exact absurd HQ.out.1.2.1 (Nat.lt_irrefl _)))).cell (i := 2) (by omega)
            clear ht9 hs9 hbl9 ho9 d2 q5 df
            go_wp2_with fail
            go_meet
            exact ⟨_, _, _, _, _, HTY.out⟩
        · as_aux_lemma =>
            have nk2 : (k5 == 2) = false := by rw [beq_eq_false_iff_ne]; exact k2
            have nk3 : (k5 == 3) = false := by rw [beq_eq_false_iff_ne]; exact k3
            have nk4 : (k5 == 4) = false := by rw [beq_eq_false_iff_ne]; exact k4
            have HVB := Lib.hid (show 0 < zs.length → ∀ k, (Value.slice Ab zs.length cb).ownBlock = some k → k < base ∧ k ≠ gm from fun h0 k hk => by
              rcases HZS.out.cases with ⟨h, _⟩ | ⟨_, gz, off, cz, hs, _, _, hg, _⟩
              · rw [h] at h0; simp at h0
              · rw [hs] at hk
                have h2 := HP2.out.lo
                have h3 : gz = k := Option.some.inj hk
                omega)
            have hls := HP2.out.ls lab hl4
            have hi80 := HI.out
            go_upto_region 12 with fail
            have hS : (World.drew wA).rowIs q 31 5 (actR kd lb (.slice Ab zs.length cb) x raw) := HROW.out.drew
            refine wp_region_held (S := fun w => w.rowIs q 31 5 (actR kd lb (.slice Ab zs.length cb) x raw)) (by kernel_rfl) ?_
            change wpAnyH _ _ _ _ _ _ _ _ (World.drew _)
            refine takeH 0 (.pointer (some ⟨g, 0, none⟩)) (some 47) rfl rfl (by kernel_rfl) (by kernel_rfl) (by kernel_rfl) (fun _ _ _ h => h) (.inl ⟨by kernel_rfl, fun w _ => by go_simp⟩) hS ?_
            refine takeH 1 (.int .i64 lab) (some 48) rfl rfl (by kernel_rfl) (by kernel_rfl) (by kernel_rfl) (fun _ _ _ h => h) (.inl ⟨by kernel_rfl, fun w _ => by go_simp⟩) hS ?_
            refine takeH 2 (.pointer (some ⟨q, 2, none⟩)) (some 49) rfl rfl (by kernel_rfl) (by kernel_rfl) (by kernel_rfl) (fun _ _ _ h => h) (.inl ⟨by kernel_rfl, fun w _ => by go_simp⟩) hS ?_
            go_simp
            refine takeH 3 (.slice Ab zs.length cb) (some 50) rfl rfl (by kernel_rfl) (by kernel_rfl) (by kernel_rfl) (fun _ _ _ h => h) (.inl ⟨by kernel_rfl, fun w hw => by have hc : w.cell? ⟨q, 2, none⟩ = some (.slice Ab zs.length cb) := hw.cell (i := 2) (by omega); go_simp⟩) hS ?_
            refine takeH 5 (.pointer (some ⟨gm, lab * 3, none⟩)) (some 52) rfl rfl (by kernel_rfl) (by kernel_rfl) (by kernel_rfl) (fun _ _ _ h => h) (.inl ⟨by kernel_rfl, fun w _ => by go_simp⟩) hS ?_
            refine takeH 6 (.pointer (some ⟨q, 2, none⟩)) (some 53) rfl rfl (by kernel_rfl) (by kernel_rfl) (by kernel_rfl) (fun _ _ _ h => h) (.inl ⟨by kernel_rfl, fun w _ => by go_simp⟩) hS ?_
            go_simp
            refine takeH 7 (.slice Ab zs.length cb) (some 54) rfl rfl (by kernel_rfl) (by kernel_rfl) (by kernel_rfl) (fun _ _ _ h => h) (.inl ⟨by kernel_rfl, fun w hw => by have hc : w.cell? ⟨q, 2, none⟩ = some (.slice Ab zs.length cb) := hw.cell (i := 2) (by omega); go_simp⟩) hS ?_
            have hbd := drewb wA
            refine callH 4 rfl (by kernel_rfl) (by kernel_rfl) (some 51) rfl 9 #[.pointer (some ⟨g, 0, none⟩), .int .i64 lab, .slice Ab zs.length cb] ?hrun ((ttyType_in lab (by omega) g g vs ins lost out _ zs _ (HP2.out.keep hbd).tt (HZS.out.keep (bnext HP2.out.bl hbd)) (by omega) ⟨by omega, by omega⟩ (Nat.le_of_lt (HP2.out.keep hbd).tt.row.lt)).mono ?_)
            case hrun => go_simp; try rfl
            rintro e w8 ⟨rfl, ⟨u, ht8, hu8⟩, hb8, hf8⟩
            obtain ⟨hr8, hs8, hbl8⟩ := (HP2.out.keep hbd).left (l := lab) (by omega) hu8 hf8 hb8
            have hS8 := hS.of_block (hf8.block q hS.lt (fun e => by have := HQ.out.1.1; omega) (fun e => HQ.out.2.1 lab (by omega) e.symm))
            have HT8 := Lib.hid ht8
            have HR8 := Lib.hid hr8
            have HS8 := Lib.hid hs8
            have HBL8 := Lib.hid hbl8
            clear ht8 hu8 hb8 hf8 hr8 hs8 hbl8 hS hbd
            have hS := hS8
            clear hS8
            refine ⟨_, rfl, hS, ?_⟩
            refine callH 8 rfl (by kernel_rfl) (by kernel_rfl) (some 55) rfl 10 #[.pointer (some ⟨gm, lab * 3, none⟩), .slice Ab zs.length cb] ?hrun ((refType_in HR8.out lab hl4 (HZS.out.keep HBL8.out) hz300 (HP2.out.tt.small lab (by omega)) ⟨by omega, by omega⟩ HVB.out).mono ?_)
            case hrun => go_simp; try rfl
            rintro e w9 ⟨rfl, ⟨u2, hr9, hu9⟩, hc9⟩
            obtain ⟨ht9, hs9, hbl9⟩ := TY.right HT8.out HR8.out HS8.out HBL8.out HP2.out.lo hl4 hu9 hc9
            have hS9 := hS.of_block (hc9.block q hS.lt (fun e => by
              rcases e with e | e
              · have := HQ.out.1.2.1
                omega
              · exact HQ.out.2.2 lab hl4 e))
            have HTY := Lib.hid (show TY W w9 g g gm base _ _ _ _ out ((i + 1) * 300 : Nat) from ⟨ht9, hr9, hs9, hbl9, fun l hl => by
              have h1 := HP2.out.ls l hl
              unfold upd
              split
              · rename_i e
                subst e
                omega
              · omega, HP2.out.lo⟩)
            clear ht9 hr9 hs9 hbl9 hu9 hc9 hS
            have hS := hS9
            clear hS9
            refine ⟨_, rfl, hS, ?_⟩
            obtain ⟨res, hres⟩ : ∃ res : Nat, res = min zs.length (128 - (ins lab).length) := ⟨_, rfl⟩
            rw [← hres]
            clear hres
            refine takeH 9 (.bool false) (some 56) rfl rfl (by kernel_rfl) (by kernel_rfl) (by kernel_rfl) (fun _ _ _ h => h) (.inl ⟨by kernel_rfl, fun w _ => by go_simp⟩) hS ?_
            refine wpAnyH_done (by kernel_rfl) ?_ _
            go_simp
            go_wp2_with fail
            go_meet
            exact ⟨_, _, _, _, _, HTY.out⟩
      case rest =>
        obtain ⟨vs', ms', ins', lost', out', hty⟩ := hcut
        have HT := Lib.hid hty
        clear hty HP2 HROW HQ
        go_at_K
        go_step
        go_wp2_with fail
        go_loopw [121] (fun r wx => ∃ k : Nat, k ≤ 4 ∧ r = .int .i64 k ∧ TY W wx g g gm base vs' ms' ins' lost' out' ((i + 1) * 300 : Nat)) (fun r _ => 4 - (intOf r).toNat)
        case atStart => exact ⟨0, by omega, rfl, HT.out⟩
        case round =>
          obtain ⟨k, hk, rfl, hty⟩ := hrel
          have HK := Lib.hid hty
          clear hty HT
          by_cases hk4 : k < 4
          · have k1 : (k : Int) < 4 := by omega
            have hls := HK.out.ls k hk4
            go_wp2_with fail
            refine (ttyCounts_in k (by omega) g g vs' ins' lost' out' _ HK.out.tt).mono ?_
            rintro e wy ⟨rfl, nn, hwy⟩
            have HKy := Lib.hid (show TY W wy g g gm base vs' ms' ins' lost' out' ((i + 1) * 300 : Nat) from by rw [hwy]; exact HK.out.keep (bdrewN (Below.refl _ _) nn))
            obtain ⟨Ak, ck, hform⟩ := own_form (HKy.out.rm.own k hk4)
            have d0 := HKy.out.rm.c0 hk4
            rw [hform] at d0
            have d1 := HKy.out.rm.c1 hk4
            have d2 := HKy.out.rm.c2 hk4
            obtain ⟨nk, hnk⟩ : ∃ nk, nk = (ins' k).length := ⟨_, rfl⟩
            obtain ⟨lk, hlk⟩ : ∃ lk, lk = lost' k := ⟨_, rfl⟩
            obtain ⟨ok, hok⟩ : ∃ ok, ok = out' k := ⟨_, rfl⟩
            rw [← hnk] at d0 ⊢
            rw [← hlk] at d1 ⊢
            rw [← hok] at d2 ⊢
            clear hform hnk hlk hok hwy hls
            go_wp2_with fail
            go_roundw
            case rel => first | exact ⟨k + 1, by omega, by go_num, HKy.out⟩ | ((repeat apply Exists.intro); exact ⟨⟨k + 1, by omega, by go_num, HKy.out⟩, rfl⟩)
            case measure => simp [intOf]; omega
          · obtain rfl : k = 4 := by omega
            have hi80 := HI.out
            go_wp2_with fail
            go_roundw
            case rel => first | exact ⟨i + 1, _, _, _, _, _, by omega, by go_num, HK.out⟩ | ((repeat apply Exists.intro); exact ⟨⟨i + 1, _, _, _, _, _, by omega, by go_num, HK.out⟩, rfl⟩)
            case measure => simp [intOf]; omega
    · go_wp2_with fail
      go_ret
      exact ⟨rfl, HP.out.bl⟩

end Go.Proofs.Ytmieioaklgdbdaa
