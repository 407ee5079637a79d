/- Bits: the tables of math/bits; Free. -/
import Derived.Test.YtonfnlohbgbffaaBitB
import Derived.Test.YtonfnlohbgbffaaCal
import Derived.Lib.BitFns
set_option linter.unusedVariables false
set_option linter.unusedSimpArgs false
namespace Go.Proofs.Ytonfnlohbgbffaa
open Go.RowKit
open Go.Maps (Keyed)

section
variable {P : Program} {ops : Array Oper} {Q : Exit → Act → World → Prop} {md : Region.Mode} {oi : Oper} {fuel : Nat} {listed : Array Bool} {a : Act} {w : World} {S : World → Prop}
theorem storeRowH (i : Nat) (hi : ops[i]? = some oi) (hw : Region.wanted oi (yielded ops a.tmps) = true) (hr : Region.ready md ops listed = [i]) (hd : oi.dst = none) (T : TypeId) (x y : Operand) (ho : oi.op = .store T x y)
    (G n : Nat) (C D : Nat → Value) (hx : a.eval x = .pointer (some ⟨G, 0, none⟩)) (hy : a.eval y = .agg (rowArr n D)) (hrow : w.rowIs G T n C) (h1 : ∀ i, i < n → (D i).oneCell' = true) (hz : (P.info? T).map (·.size) = some n)
    (hk : ∀ w', w'.rowIs G T n D → One w w' (some G) → S w' ∧ wpAnyH P md ops Q S fuel (listed.setIfInBounds i true) a w') : wpAnyH P md ops Q S (fuel + 1) listed a w :=
  storeWholeH i hi hw hr hd T x y ho (rowArr n D) (rowArr n C) T hx hy (by rw [rowArr_size]; exact hz) (rowIs_arr hrow) (by rw [rowArr_size, rowArr_size])
    (fun v hv => by
      obtain ⟨i, hi⟩ := List.mem_iff_getElem?.1 hv
      obtain ⟨h2, rfl⟩ := rowArr_get _ _ _ _ hi
      exact h1 i h2) (fun w' hb o => hk w' (rowIs_of_arr hb) o)
end

/-- The lowest bit that is set; how many are. -/
def tz8 (x : Nat) : Nat := Lib.trailingZeros8 x
def on8 (x : Nat) : Nat := ((List.range 8).filter fun j => x.testBit j).length
theorem ntz8_tz (x : Nat) (h : x ≤ 255) : Lib.ntz8 (x : Int) = (tz8 x : Nat) := Lib.ntz8_eq ⟨x, by omega⟩
theorem pop8_on (x : Nat) (h : x ≤ 255) : Lib.pop8 (x : Int) = (on8 x : Nat) := by
  have key : ∀ n : Fin 256, Lib.pop8 (n.val : Int) = (on8 n.val : Int) := by decide +kernel
  exact key ⟨x, by omega⟩
theorem tz8_free (x : Nat) (h : x < 255) : tz8 (255 - x) < 8 ∧ x.testBit (tz8 (255 - x)) = false ∧ ∀ j, j < tz8 (255 - x) → x.testBit j = true := by
  have key : ∀ n : Fin 255, tz8 (255 - n.val) < 8 ∧ n.val.testBit (tz8 (255 - n.val)) = false ∧ ∀ j : Fin 8, j.val < tz8 (255 - n.val) → n.val.testBit j.val = true := by decide +kernel
  obtain ⟨h1, h2, h3⟩ := key ⟨x, h⟩
  exact ⟨h1, h2, fun j hj => h3 ⟨j, by simp only at h1; omega⟩ hj⟩
theorem on8_le (x : Nat) : on8 x ≤ 8 := Nat.le_trans (List.length_filter_le _ _) (by simp)
theorem not_u8 (x : Nat) (h : x < 255) : bits .xor .u8 IntKind.u8.max (x : Int) = ((255 - x : Nat) : Int) := by
  have key : ∀ n : Fin 256, bits .xor .u8 IntKind.u8.max ((n.val : Nat) : Int) = ((255 - n.val : Nat) : Int) := of_decide_eq_true (by kernel_rfl)
  exact key ⟨x, by omega⟩
theorem bit255 (j : Nat) (h : j < 8) : Nat.testBit 255 j = true := by
  have key : ∀ j : Fin 8, Nat.testBit 255 j.val = true := by decide +kernel
  exact key ⟨j, h⟩
set_option maxRecDepth 100000 in
set_option maxHeartbeats 1000000 in
theorem tz8_any (x : Nat) (h : x ≤ 255) (w : World) : Calls Try.prog 70 #[.int .u8 x] w fun e w' => e = .returned (.int .i64 (tz8 x : Nat)) ∧ w' = w := by
  have h1 := ntz8_tz x h
  have h2 : tz8 x ≤ 8 := by
    have key : ∀ n : Fin 256, tz8 n.val ≤ 8 := by decide +kernel
    exact key ⟨x, by omega⟩
  have h3 : 0 ≤ (x : Int) := by omega
  have h4 : (x : Int) ≤ 255 := by omega
  go_enter Try.func70, Try.ntmps70
  go_wp2_with fail
  go_ret
  exact ⟨ret_int (by first | rfl | omega), rfl⟩
set_option maxRecDepth 100000 in
set_option maxHeartbeats 1000000 in
theorem on8_any (x : Nat) (h : x ≤ 255) (w : World) : Calls Try.prog 71 #[.int .u8 x] w fun e w' => e = .returned (.int .i64 (on8 x : Nat)) ∧ w' = w := by
  have h1 := pop8_on x h
  have h2 := on8_le x
  have h3 : 0 ≤ (x : Int) := by omega
  have h4 : (x : Int) ≤ 255 := by omega
  go_enter Try.func71, Try.ntmps71
  go_wp2_with fail
  go_ret
  exact ⟨ret_int (by first | rfl | omega), rfl⟩

theorem ret_two {k : IntKind} {a b : Int} {u v : Value} (h : a = b) (h' : u = v) : Ending.returned (.tuple #[.int k a, u]) = .returned (.tuple #[.int k b, v]) := by rw [h, h']
/-- The first that isn't set. -/
def FreeR (B : Nat → Bool) (many : Nat) (r : Int) : Prop := (r = -1 ∧ ∀ i, i < many → B i = true) ∨ ∃ i : Nat, r = i ∧ i < many ∧ B i = false ∧ ∀ j, j < i → B j = true
theorem free_byte (V : Nat → Nat → Nat) (first j a : Nat) (ha : a < 64) (i : Nat) (h : 512 * j + 8 * a ≤ i) (h' : i < 512 * j + 8 * (a + 1)) : bitV V first i = (V (first + j) a).testBit (i - (512 * j + 8 * a)) := by
  unfold bitV
  rw [show i / 512 = j by omega, show i / 8 % 64 = a by omega, show i % 8 = i - (512 * j + 8 * a) by omega]
section
variable {W w w' : World} {gd gb gl gt gm n lf first many g : Nat} {F : Int → Option (Nat → Nat)} {bad : Int} {D : Nat → Nat → Nat} {left : Int} {dead : Bool}
def FreePost (w : World) (gd gb gl gt gm g n lf first many : Nat) (F : Int → Option (Nat → Nat)) (bad : Int) (D : Nat → Nat → Nat) (left : Int) (dead : Bool) (e : Ending) (w' : World) : Prop :=
  ∃ r : Int, FreeR (bitV (viewB F D) first) many r ∧ e = .returned (.tuple #[.int .i64 r, .int .i64 0]) ∧ BX w' gd gb gl gt gm g n lf first many F bad D left dead ∧ Chg (dset gd gb) w w'
set_option maxRecDepth 100000 in
set_option maxHeartbeats 4000000 in
theorem bitsFree_ok (h : BX w gd gb gl gt gm g n lf first many F bad D left dead) (hn : ∀ k, 512 * k < many → first + k < n) :
    Calls Try.prog 28 #[.pointer (some ⟨g, 0, none⟩)] w (FreePost w gd gb gl gt gm g n lf first many F bad D left dead) := by
  have H := Lib.hid h
  have HN := Lib.hid hn
  have hm := h.h2
  have hf := h.h1
  clear h hn
  go_enter Try.func28, Try.ntmps28
  go_wp2_with fail
  go_loopw [4] (fun r4 wx => ∃ j : Nat, r4 = .int .i64 j ∧ 512 * j < many + 512 ∧ (∀ i, i < 512 * j → bitV (viewB F D) first i = true) ∧ BX wx gd gb gl gt gm g n lf first many F bad D left dead ∧ Chg (dset gd gb) w wx) (fun r _ => many + 512 - 512 * (intOf r).toNat)
  case atStart => exact ⟨0, rfl, by omega, fun i hi => by omega, H.out, Chg.refl _ _⟩
  case round =>
    obtain ⟨j, rfl, hj, hall, hbx, hcg⟩ := hrel
    have HALL := Lib.hid hall
    have HBX := Lib.hid hbx
    have HCG := Lib.hid hcg
    have c2 := hbx.c2
    clear hall hbx hcg
    obtain ⟨wo, hwo⟩ : ∃ wo, wo = wr := ⟨_, rfl⟩
    subst hwo
    by_cases hjm : 512 * j < many
    · have f1 : (j : Int) * 512 < many := by omega
      have HPN := Lib.hid (HN.out j hjm)
      obtain ⟨p, hp⟩ : ∃ p, p = first + j := ⟨_, rfl⟩
      have f2 : IntKind.i64.wrap ((first : Int) + (j : Int)) = (p : Int) := by rw [hp]; simp [IntKind.wrap, IntKind.bits, IntKind.signed]; omega
      rw [← hp] at HPN
      have HPE := Lib.hid hp
      clear hp
      go_upto_region 6 with fail
      go_cut [5, 6] (fun sp se wx => ∃ M, sp = .pointer (some ⟨M, 0, none⟩) ∧ se = .int .i64 0 ∧ wo.heap.size ≤ M ∧ wx.rowIs M 52 64 (pgC (viewB F D p)) ∧ BX wx gd gb gl gt gm g n lf first many F bad D left dead ∧ Chg (dset gd gb) wo wx)
      case first =>
        have HBD := Lib.hid (HBX.out.keep (drewb wo))
        have HGS := Lib.hid (show ¬ dset gd gb g from fun e => by have := HBX.out.ne; rcases e with e | e; exact this.1 e; exact this.2.1 e)
        have hS : Chg (dset gd gb) wo (World.drew wo) := Chg.of_below _ (drewb wo)
        have HC := Lib.hid (show ∀ w', Chg (dset gd gb) wo w' → w'.cell? ⟨g, 0, none⟩ = some (.iface 42 (.pointer (some ⟨gt, 0, none⟩))) ∧ w'.cell? ⟨g, 1, none⟩ = some (.int .i64 first) from fun w' hc => by
          have h2 := hc.row HBX.out.bm HGS.out
          exact ⟨h2.cell (i := 0) (by omega), h2.cell (i := 1) (by omega)⟩)
        have HGET := Lib.hid (show ∀ w', Below wo.heap.size wo w' → Calls Try.prog 26 #[.pointer (some ⟨gt, 0, none⟩), .int .i64 p] w' fun e w2 => e = .returned (.tuple #[pageV (viewB F D p), .int .i64 0]) ∧ TX w2 gd gb gl gt gm n lf F bad D left dead ∧ Chg (dset gd gb) w' w2 from fun w' hb => txnGet_ok (HBX.out.keep hb).tx p HPN.out)
        refine wp_region_held (S := Chg (dset gd gb) wo) (by kernel_rfl) ?_
        change wpAnyH _ _ _ _ _ _ _ _ (World.drew _)
        refine takeH 0 (.pointer (some ⟨g, 0, none⟩)) (some 22) rfl rfl (by kernel_rfl) (by kernel_rfl) (by kernel_rfl) (fun _ _ _ h => h) (.inl ⟨by kernel_rfl, fun w _ => by go_simp⟩) hS ?_
        refine takeH 1 (.pointer (some ⟨g, 0, none⟩)) (some 23) rfl rfl (by kernel_rfl) (by kernel_rfl) (by kernel_rfl) (fun _ _ _ h => h) (.inl ⟨by kernel_rfl, fun w _ => by go_simp⟩) hS ?_
        refine takeH 2 (.pointer (some ⟨g, 0, none⟩)) (some 24) rfl rfl (by kernel_rfl) (by kernel_rfl) (by kernel_rfl) (fun _ _ _ h => h) (.inl ⟨by kernel_rfl, fun w _ => by go_simp⟩) hS ?_
        refine takeH 3 (.iface 42 (.pointer (some ⟨gt, 0, none⟩))) (some 25) rfl rfl (by kernel_rfl) (by kernel_rfl) (by kernel_rfl) (fun _ _ _ h => h) (.inl ⟨by kernel_rfl, fun w hw => by have hc := (HC.out w hw).1; go_simp⟩) hS ?_
        refine takeH 4 (.pointer (some ⟨g, 0, none⟩)) (some 26) rfl rfl (by kernel_rfl) (by kernel_rfl) (by kernel_rfl) (fun _ _ _ h => h) (.inl ⟨by kernel_rfl, fun w _ => by go_simp⟩) hS ?_
        refine takeH 5 (.pointer (some ⟨g, 0, none⟩)) (some 27) rfl rfl (by kernel_rfl) (by kernel_rfl) (by kernel_rfl) (fun _ _ _ h => h) (.inl ⟨by kernel_rfl, fun w _ => by go_simp⟩) hS ?_
        refine takeH 6 (.pointer (some ⟨g, 1, none⟩)) (some 28) rfl rfl (by kernel_rfl) (by kernel_rfl) (by kernel_rfl) (fun _ _ _ h => h) (.inl ⟨by kernel_rfl, fun w _ => by go_simp⟩) hS ?_
        refine takeH 7 (.int .i64 first) (some 29) rfl rfl (by kernel_rfl) (by kernel_rfl) (by kernel_rfl) (fun _ _ _ h => h) (.inl ⟨by kernel_rfl, fun w hw => by have hc := (HC.out w hw).2; go_simp⟩) hS ?_
        refine takeH 8 (.int .i64 j) (some 30) rfl rfl (by kernel_rfl) (by kernel_rfl) (by kernel_rfl) (fun _ _ _ h => h) (.inl ⟨by kernel_rfl, fun w _ => by go_simp⟩) hS ?_
        refine takeH 9 (.int .i64 p) (some 31) rfl rfl (by kernel_rfl) (by kernel_rfl) (by kernel_rfl) (fun _ _ _ h => h) (.inl ⟨by kernel_rfl, fun w _ => by go_simp⟩) hS ?_
        refine takeH 10 (.iface 42 (.pointer (some ⟨gt, 0, none⟩))) (some 32) rfl rfl (by kernel_rfl) (by kernel_rfl) (by kernel_rfl) (fun _ _ _ h => h) (.inl ⟨by kernel_rfl, fun w _ => by go_simp⟩) hS ?_
        refine takeH 11 (.iface 42 (.pointer (some ⟨gt, 0, none⟩))) (some 33) rfl rfl (by kernel_rfl) (by kernel_rfl) (by kernel_rfl) (fun _ _ _ h => h) (.inl ⟨by kernel_rfl, fun w _ => by go_simp⟩) hS ?_
        go_simp
        have hSB : Chg (dset gd gb) wo ((World.drew wo).alloc (.cells (Value.agg (rowArr 64 (pgC fun _ => 0))).cells 52)) := hS.next (bnew _ _)
        refine callAlloc 12 16 rfl rfl rfl rfl (by kernel_rfl) (by kernel_rfl) 34 5 rfl rfl 26 #[.pointer (some ⟨gt, 0, none⟩), .int .i64 p] 52 rfl (.agg (rowArr 64 (pgC fun _ => 0))) page_zero (by go_simp; rfl) (fun _ w' => by go_simp; rfl) ((HGET.out _ (drewb wo)).mono ?_) hSB (fun M hM0 => (HGET.out _ (bnewAfter (drewb wo) _)).mono ?_) (by decide) (by decide)
        · rintro e wT ⟨he, hT, hD⟩
          have hS1 : Chg (dset gd gb) wo wT := hS.trans hD (fun k _ h => h)
          refine ⟨_, he, hS1, ?_⟩
          clear he
          refine takeH 13 (.tuple #[pageV (viewB F D p), .int .i64 0]) (some 21) rfl rfl (by kernel_rfl) (by kernel_rfl) (by kernel_rfl) (fun _ _ _ h => h) (.inl ⟨by kernel_rfl, fun w _ => by go_simp⟩) hS1 ?_
          refine takeH 14 (pageV (viewB F D p)) (some 35) rfl rfl (by kernel_rfl) (by kernel_rfl) (by kernel_rfl) (fun _ _ _ h => h) (.inl ⟨by kernel_rfl, fun w _ => by go_simp⟩) hS1 ?_
          refine takeH 15 (.int .i64 0) (some 36) rfl rfl (by kernel_rfl) (by kernel_rfl) (by kernel_rfl) (fun _ _ _ h => h) (.inl ⟨by kernel_rfl, fun w _ => by go_simp⟩) hS1 ?_
          refine runH 16 _ (some 5) rfl (by kernel_rfl) (by kernel_rfl) rfl (exec_alloc 52 rfl (.agg (rowArr 64 (pgC fun _ => 0))) page_zero) (hS1.next (bnew _ _)) ?_
          have hm := rowIs_of_arr (heap_alloc_last wT (.cells (rowArr 64 (pgC fun _ => 0)) 52))
          have hS2 := hS1.next (bnew wT (.cells (rowArr 64 (pgC fun _ => 0)) 52))
          have hM : wo.heap.size ≤ wT.heap.size := hS1.size
          have hT2 := hT.keep (bnew wT (.cells (rowArr 64 (pgC fun _ => 0)) 52))
          refine storeRowH 17 rfl (by kernel_rfl) (by kernel_rfl) rfl 52 _ _ rfl wT.heap.size 64 _ (pgC (viewB F D p)) (by go_simp; try rfl) (by go_simp; try rfl) hm (fun _ _ => rfl) block_size (fun w3 h3 o3 => ?_)
          have hS3 : Chg (dset gd gb) wo w3 := hS2.one o3 (.inr hM)
          refine ⟨hS3, ?_⟩
          refine takeH 18 (.int .i64 0) (some 6) rfl rfl (by kernel_rfl) (by kernel_rfl) (by kernel_rfl) (fun _ _ _ h => h) (.inl ⟨by kernel_rfl, fun w _ => by go_simp⟩) hS3 ?_
          refine wpAnyH_done (by kernel_rfl) ?_ _
          go_simp
          go_wp2_with fail
          go_meet
          exact ⟨_, rfl, rfl, hM, h3, ⟨hT2.newOne o3 hM HBX.out.tx.lt, hS3.row HBX.out.bm HGS.out, HBX.out.h1, HBX.out.h2⟩, hS3⟩
        · rintro e wT ⟨he, hT, hD⟩
          have hS1 : Chg (dset gd gb) wo wT := hSB.trans hD (fun k _ h => h)
          refine ⟨_, he, hS1, fun fl hfl => ?_⟩
          obtain rfl : fl = 5 := by simpa using hfl
          clear hfl he
          refine takeH 13 (.tuple #[pageV (viewB F D p), .int .i64 0]) (some 21) rfl rfl (by kernel_rfl) (by kernel_rfl) (by kernel_rfl) (fun _ _ _ h => h) (.inl ⟨by kernel_rfl, fun w _ => by go_simp⟩) hS1 ?_
          refine takeH 14 (pageV (viewB F D p)) (some 35) rfl rfl (by kernel_rfl) (by kernel_rfl) (by kernel_rfl) (fun _ _ _ h => h) (.inl ⟨by kernel_rfl, fun w _ => by go_simp⟩) hS1 ?_
          refine takeH 15 (.int .i64 0) (some 36) rfl rfl (by kernel_rfl) (by kernel_rfl) (by kernel_rfl) (fun _ _ _ h => h) (.inl ⟨by kernel_rfl, fun w _ => by go_simp⟩) hS1 ?_
          have HM1 := Lib.hid (show M = wo.heap.size from hM0)
          clear hM0
          have hm := hD.row (rowIs_of_arr (heap_alloc_last (World.drew wo) (.cells (rowArr 64 (pgC fun _ => 0)) 52))) (fun e => by have h1 := HBX.out.tx.lt; have h3 : (World.drew wo).heap.size = wo.heap.size := rfl; rcases e with e | e <;> omega)
          rw [show (World.drew wo).heap.size = M from HM1.out.symm] at hm
          have hS2 := hS1
          have hM : wo.heap.size ≤ M := Nat.le_of_eq HM1.out.symm
          have hT2 := hT
          refine storeRowH 17 rfl (by kernel_rfl) (by kernel_rfl) rfl 52 _ _ rfl M 64 _ (pgC (viewB F D p)) (by go_simp; try rfl) (by go_simp; try rfl) hm (fun _ _ => rfl) block_size (fun w3 h3 o3 => ?_)
          have hS3 : Chg (dset gd gb) wo w3 := hS2.one o3 (.inr hM)
          refine ⟨hS3, ?_⟩
          refine takeH 18 (.int .i64 0) (some 6) rfl rfl (by kernel_rfl) (by kernel_rfl) (by kernel_rfl) (fun _ _ _ h => h) (.inl ⟨by kernel_rfl, fun w _ => by go_simp⟩) hS3 ?_
          refine wpAnyH_done (by kernel_rfl) ?_ _
          go_simp
          go_wp2_with fail
          go_meet
          exact ⟨_, rfl, rfl, hM, h3, ⟨hT2.newOne o3 hM HBX.out.tx.lt, hS3.row HBX.out.bm HGS.out, HBX.out.h1, HBX.out.h2⟩, hS3⟩
      case rest =>
        obtain ⟨M, rfl, rfl, hM, hrow, hbx2, hcg2⟩ := hcut
        have HROW := Lib.hid hrow
        have HBX2 := Lib.hid hbx2
        have HCG2 := Lib.hid (HCG.out.trans hcg2 (fun _ _ h => h))
        have c2 := hbx2.c2
        clear hM hrow hbx2 hcg2 f2
        go_at_K
        go_step
        go_wp2_with (first
          | (refine wpList_row_load (by kernel_rfl) 52 (.tmp 5) rfl (some 40) rfl M 64 (pgC (viewB F D p)) (by go_simp) HROW.out _ block_under rfl block_size ?_))
        go_loopw [41] (fun r wx => ∃ a : Nat, a ≤ 64 ∧ r = .int .i64 a ∧ (∀ i, i < 512 * j + 8 * a → bitV (viewB F D) first i = true) ∧ wx = wc) (fun r _ => 64 - (intOf r).toNat)
        case atStart => exact ⟨0, by omega, rfl, fun i hi => HALL.out i (by omega), rfl⟩
        case round =>
          obtain ⟨a, ha, rfl, hall2, rfl⟩ := hrel
          have HALL2 := Lib.hid hall2
          clear hall2
          by_cases ha64 : a < 64
          · have g1 : (a : Int) < 64 := by omega
            have hx255 := viewB_u8 HBX2.out.tx p a
            have hbyte := fun i h h' => free_byte (viewB F D) first j a ha64 i h h'
            rw [← HPE.out] at hbyte
            obtain ⟨x, hx⟩ : ∃ x, x = viewB F D p a := ⟨_, rfl⟩
            rw [← hx] at hx255 hbyte
            have hix : ∀ w, (Instr.index 52 (.agg (rowArr 64 (pgC (viewB F D p)))) (.int .i64 a)).run Try.prog w = .ok (.int .u8 x) w := fun w =>
              run_index_arr block_under (by kernel_rfl) (fun w => by kernel_rfl) _ (by simp [rowArr, ha64, pgC, hx]) ha64 w
            have HBY := Lib.hid hbyte
            clear hbyte hx
            by_cases hff : x = 255
            · have g2 : ((x : Int) == 255) = true := by rw [beq_iff_eq]; omega
              have HFF := Lib.hid hff
              clear hff
              go_wp2_with fail
              go_roundw
              case rel => exact ⟨a + 1, by omega, by go_num, fun i hi => by
                by_cases h : i < 512 * j + 8 * a
                · exact HALL2.out i h
                · rw [HBY.out i (by omega) (by omega), HFF.out]
                  exact bit255 _ (by omega), trivial⟩
              case measure => simp [intOf]; omega
            · have g2 : ((x : Int) == 255) = false := by rw [beq_eq_false_iff_ne]; omega
              obtain ⟨t1, t2, t3⟩ := tz8_free x (by omega)
              obtain ⟨z, hz⟩ : ∃ z, z = tz8 (255 - x) := ⟨_, rfl⟩
              rw [← hz] at t1 t2 t3
              have g3 := not_u8 x (by omega)
              have HZ := Lib.hid hz
              have HT := Lib.hid (And.intro t2 t3)
              obtain ⟨y, hy⟩ : ∃ y, y = 255 - x := ⟨_, rfl⟩
              rw [← hy] at g3
              have hy255 : y ≤ 255 := by omega
              have HY := Lib.hid (show z = tz8 y by rw [hz, hy])
              clear hff hz t2 t3 hy
              go_upto_region 14 with (first
                | (go_at_call 70; refine (tz8_any y hy255 _).mono ?_; rintro e w5 ⟨rfl, rfl⟩; rw [← HY.out]))
              by_cases hlt : 512 * j + 8 * a + z < many
              · have g4 : ¬ (many : Int) ≤ (j : Int) * 512 + (a : Int) * 8 + (z : Int) := by omega
                go_wp2_with fail
                go_ret2
                refine ⟨((512 * j + 8 * a + z : Nat) : Int), .inr ⟨_, rfl, hlt, ?_, fun i hi => ?_⟩, ret_two (by omega) rfl, HBX2.out, HCG2.out⟩
                · rw [HBY.out _ (by omega) (by omega), show 512 * j + 8 * a + z - (512 * j + 8 * a) = z by omega]
                  exact HT.out.1
                · by_cases h : i < 512 * j + 8 * a
                  · exact HALL2.out i h
                  · rw [HBY.out i (by omega) (by omega)]
                    exact HT.out.2 _ (by omega)
              · have g4 : (many : Int) ≤ (j : Int) * 512 + (a : Int) * 8 + (z : Int) := by omega
                go_wp2_with fail
                go_ret2
                refine ⟨-1, .inl ⟨rfl, fun i hi => ?_⟩, rfl, HBX2.out, HCG2.out⟩
                by_cases h : i < 512 * j + 8 * a
                · exact HALL2.out i h
                · rw [HBY.out i (by omega) (by omega)]
                  exact HT.out.2 _ (by omega)
          · obtain rfl : a = 64 := by omega
            go_wp2_with fail
            go_roundw
            case rel => exact ⟨j + 1, by go_num, by omega, fun i hi => HALL2.out i (by omega), HBX2.out, HCG2.out⟩
            case measure => simp [intOf]; omega
    · have f1 : ¬ (j : Int) * 512 < many := by omega
      go_wp2_with fail
      go_ret2
      exact ⟨-1, .inl ⟨rfl, fun i hi => HALL.out i (by omega)⟩, rfl, HBX.out, HCG.out⟩
end
end Go.Proofs.Ytonfnlohbgbffaa
