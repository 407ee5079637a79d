/- Bits: BitsPlays. -/
import Derived.Test.YtonfnlohbgbffaaBitF
import Derived.Deep.CutBlock
set_option linter.unusedVariables false
set_option linter.unusedSimpArgs false
namespace Go.Proofs.Ytonfnlohbgbffaa
open Go.RowKit
open Go.Maps (Keyed)

def boolC (B : Nat → Bool) (i : Nat) : Value := .bool (B i)
theorem FreeR.unique {B : Nat → Bool} {n : Nat} {r s : Int} (h : FreeR B n r) (h' : FreeR B n s) : r = s := by
  rcases h with ⟨rfl, h1⟩ | ⟨i, rfl, h1, h2, h3⟩
  · rcases h' with ⟨rfl, _⟩ | ⟨j, rfl, g1, g2, g3⟩
    · rfl
    · rw [h1 j g1] at g2; cases g2
  · rcases h' with ⟨rfl, g1⟩ | ⟨j, rfl, g1, g2, g3⟩
    · rw [g1 i h1] at h2; cases h2
    · rcases Nat.lt_trichotomy i j with h | h | h
      · rw [g3 i h] at h2; cases h2
      · rw [h]
      · rw [h3 j h] at g2; cases g2
theorem FreeR.yes {B : Nat → Bool} {i : Nat} {r : Int} (h : FreeR B i r) (hb : B i = true) : FreeR B (i + 1) r := by
  rcases h with ⟨rfl, h1⟩ | ⟨k, rfl, h1, h2, h3⟩
  · exact .inl ⟨rfl, fun j hj => by
      by_cases e : j = i
      · rw [e, hb]
      · exact h1 j (by omega)⟩
  · exact .inr ⟨k, rfl, by omega, h2, h3⟩
theorem FreeR.no {B : Nat → Bool} {i : Nat} {r : Int} (h : FreeR B i r) (hb : B i = false) : FreeR B (i + 1) (if r < 0 then (i : Int) else r) := by
  rcases h with ⟨rfl, h1⟩ | ⟨k, rfl, h1, h2, h3⟩
  · rw [if_pos (by omega)]
    exact .inr ⟨i, rfl, by omega, hb, h1⟩
  · rw [if_neg (by omega)]
    exact .inr ⟨k, rfl, by omega, h2, h3⟩
theorem FreeR.bound {B : Nat → Bool} {i : Nat} {r : Int} (h : FreeR B i r) : -1 ≤ r ∧ r < i + 1 := by
  rcases h with ⟨rfl, h1⟩ | ⟨k, rfl, h1, h2, h3⟩ <;> omega
/-- Bits, and a slice that says which are set. -/
structure FW (W w : World) (gd gb gl gt gm g first n q : Nat) (B : Nat → Bool) : Prop where
  bk : BK W w gd gb gl gt gm g first n B
  row : w.rowIs q 4 n (boolC B)
  lo : W.heap.size ≤ q
section
variable {W w w' : World} {gd gb gl gt gm g first n q : Nat} {B C : Nat → Bool}
theorem BK.notRow (h : BK W w gd gb gl gt gm g first n B) {T : TypeId} {m : Nat} {f : Nat → Value} (hr : w.rowIs q T m f) (t1 : T ≠ 162) (t2 : T ≠ 52) (t3 : T ≠ 145) (t4 : T ≠ 143) (t5 : T ≠ 137) :
    (q ≠ gd ∧ q ≠ gb ∧ q ≠ gl ∧ q ≠ gt ∧ q ≠ gm ∧ q ≠ g) ∧ ¬ sset gd gb gm q := by
  obtain ⟨F, h1, h2, h3⟩ := h.ex
  have e := h1.tx.lx.dx.ne hr t1 t2
  have e5 := h1.tx.mp.notCells hr
  exact ⟨⟨e.1, e.2, rowIs_ne hr h1.tx.lx.lg t3, rowIs_ne hr h1.tx.tx t4, e5, rowIs_ne hr h1.bm t5⟩, fun x => by rcases x with (x | x) | x; exact e.1 x; exact e.2 x; exact e5 x⟩
theorem BK.one' (h : BK W w gd gb gl gt gm g first n B) {x : Nat} (o : One w w' (some x)) (hx : x ≠ gd ∧ x ≠ gb ∧ x ≠ gl ∧ x ≠ gt ∧ x ≠ gm ∧ x ≠ g) (hW : W.heap.size ≤ x) : BK W w' gd gb gl gt gm g first n B := by
  obtain ⟨F, h1, h2, h3⟩ := h.ex
  exact ⟨⟨F, ⟨h1.tx.one o ⟨hx.1, hx.2.1, hx.2.2.1, hx.2.2.2.1, hx.2.2.2.2.1⟩, rowIs_one h1.bm o hx.2.2.2.2.2.symm, h1.h1, h1.h2⟩, h2, h3⟩, bone h.bl o hW h.bl.size, h.lo, h.h3, h.hm, h.hf⟩
theorem FW.ne (h : FW W w gd gb gl gt gm g first n q B) : (q ≠ gd ∧ q ≠ gb ∧ q ≠ gl ∧ q ≠ gt ∧ q ≠ gm ∧ q ≠ g) ∧ ¬ sset gd gb gm q := h.bk.notRow h.row (by decide) (by decide) (by decide) (by decide) (by decide)
theorem FW.keep (h : FW W w gd gb gl gt gm g first n q B) (hb : Below w.heap.size w w') : FW W w' gd gb gl gt gm g first n q B := ⟨h.bk.keep hb, rowIs_below h.row hb, h.lo⟩
theorem FW.same (h : FW W w gd gb gl gt gm g first n q B) (hb : BK W w' gd gb gl gt gm g first n B) (c : Chg (sset gd gb gm) w w') : FW W w' gd gb gl gt gm g first n q B := ⟨hb, c.row h.row h.ne.2, h.lo⟩
/-- The bit is set, and then the place. -/
theorem FW.set (h : FW W w gd gb gl gt gm g first n q B) {i : Nat} {on : Bool} (hb : BK W w' gd gb gl gt gm g first n (setBit B i on)) (c : Chg (sset gd gb gm) w w') : FW W (w'.setCell ⟨q, i, none⟩ (.bool on)) gd gb gl gt gm g first n q (setBit B i on) := by
  refine ⟨hb.one' (one_setCell w' q i (.bool on)) h.ne.1 h.lo, ((c.row h.row h.ne.2).set i (.bool on)).congr (fun j hj => ?_), h.lo⟩
  unfold boolC setBit
  by_cases e : j = i
  · rw [if_pos e, if_pos e]
  · rw [if_neg e, if_neg e]
end
set_option maxRecDepth 100000 in
set_option maxHeartbeats 16000000 in
theorem bitsPlays_walk (W : World) (v0 v1 v2 : Value) (o0 : Arg Try.prog W 23 v0) (o1 : Arg Try.prog W 60 v1) (o2 : Arg Try.prog W 3 v2) :
    Calls Try.prog 6 #[v0, v1, v2] W fun e w' => e = .returned (.bool true) ∧ Below W.heap.size W w' := by
  obtain ⟨x, rfl, hx⟩ := Arg.int Try.underlying23 o0
  obtain ⟨zs, hzs⟩ := SI.of_arg Try.underlying60 Try.underlying62 (by kernel_rfl) o1
  obtain ⟨raw, rfl, hraw⟩ := Arg.int Try.underlying3 o2
  have hx2 := wf_u16 hx
  obtain ⟨n, hn⟩ : ∃ n : Nat, (n : Int) = x % 1200 := ⟨(x % 1200).toNat, by omega⟩
  have hn1 : n < 1200 := by omega
  obtain ⟨A, cap, hform, hlc, hcm⟩ := hzs.sr.form
  subst hform
  have HZS := Lib.hid hzs
  have HRAW := Lib.hid (wf_i64 hraw)
  have f1 : x % 1200 = (n : Int) := hn.symm
  have f2 : x.tmod 1200 = (n : Int) := by rw [Int.tmod_eq_emod_of_nonneg (by omega)]; omega
  have hx0 := hx2.1
  have hx1 := hx2.2
  unfold maxLen at hcm
  have hmk := fun w => run_make_row' (P := Try.prog) 61 4 (.bool false) 1 Try.underlying61 (by kernel_rfl) rfl .i64 .i64 n (by omega) (by omega) w
  clear o0 o1 o2 hzs hx hx2 hn hraw
  go_enter Try.func6, Try.ntmps6
  go_wp2_with fail
  refine (bitsAwake_in W).mono ?_
  rintro e w1 ⟨rfl, hb1⟩
  go_wp2_with fail
  refine (begun_in w1).mono ?_
  rintro e w2 ⟨gd, gb, gl, gt, gm, rfl, ht2⟩
  go_wp2_with fail
  refine (bkNew ht2 32 n (by omega) (by omega) (fun i hi => by omega) (by omega)).mono ?_
  rintro e w3 ⟨g, rfl, hk3⟩
  have hk3' : BK W w3 gd gb gl gt gm g 32 n (fun _ => false) := ⟨hk3.ex, hb1.trans (hk3.bl.mono hb1.size), ⟨Nat.le_trans hb1.size hk3.lo.1, Nat.le_trans hb1.size hk3.lo.2.1, Nat.le_trans hb1.size hk3.lo.2.2.1, Nat.le_trans hb1.size hk3.lo.2.2.2.1, Nat.le_trans hb1.size hk3.lo.2.2.2.2.1, Nat.le_trans hb1.size hk3.lo.2.2.2.2.2⟩, hk3.h3, hk3.hm, hk3.hf⟩
  have hfw : FW W (w3.alloc (.cells (madeCells #[.bool false] n) 4)) gd gb gl gt gm g 32 n w3.heap.size (fun _ => false) :=
    ⟨hk3'.keep (bnew _ _), World.rowIs_made w3 (.bool false) n 4, hk3'.bl.size⟩
  have HFW := Lib.hid hfw
  clear hk3 hk3' ht2 hb1 hfw
  go_upto_block 0 with fail
  clear hmk
  generalize w3.heap.size = q at *
  generalize w3.alloc (.cells (madeCells #[.bool false] n) 4) = w4 at *
  go_cut [] (fun wx => ∃ B : Nat → Bool, FW W wx gd gb gl gt gm g 32 n q B)
  case first =>
    go_wp2_with fail
    go_loopw [52] (fun r wx => ∃ (k : Nat) (B : Nat → Bool), k ≤ zs.length ∧ r = .int .i64 k ∧ FW W wx gd gb gl gt gm g 32 n q B) (fun r _ => zs.length - (intOf r).toNat)
    case atStart => exact ⟨0, _, by omega, rfl, HFW.out⟩
    case round =>
      obtain ⟨k, B, hk, rfl, hfb⟩ := hrel
      have HF := Lib.hid hfb
      clear hfb HFW
      by_cases hkl : k < zs.length
      · have g1 : (k : Int) < zs.length := by omega
        rcases (HZS.out.keep HF.out.bk.bl).cases with ⟨h, _⟩ | ⟨_, gz, off, c1, hs, _, _, hg, hc⟩
        · rw [h] at hkl; simp at hkl
        cases hs
        have hcz := hc k hkl
        have hwf := wf_i16 (HZS.out.wf (zs.getD k 0) (by rw [List.getD_eq_getElem?_getD, List.getElem?_eq_getElem hkl]; exact List.getElem_mem hkl))
        obtain ⟨z, hz⟩ : ∃ z : Int, z = zs.getD k 0 := ⟨_, rfl⟩
        rw [← hz] at hcz hwf
        have hz0 := hwf.1
        have hz1 := hwf.2
        clear hc hz hwf
        by_cases hk60 : k ≤ 60
        · have g2 : ¬ (60 : Int) < k := by omega
          have hcase : (0 ≤ z ∧ ∃ a : Nat, z % 1300 = (a : Int) ∧ z.tmod 1300 = (a : Int) ∧ a < 1300) ∨ (¬ 0 ≤ z ∧ ∃ a : Nat, (-1 - z) % 1300 = (a : Int) ∧ (-1 - z).tmod 1300 = (a : Int) ∧ a < 1300) := by
            by_cases h : 0 ≤ z
            · exact .inl ⟨h, (z % 1300).toNat, by omega, by rw [Int.tmod_eq_emod_of_nonneg (by omega)]; omega, by omega⟩
            · exact .inr ⟨h, ((-1 - z) % 1300).toNat, by omega, by rw [Int.tmod_eq_emod_of_nonneg (by omega)]; omega, by omega⟩
          rcases hcase with ⟨g3, a, f3, f4, ha13⟩ | ⟨g3, a, f3, f4, ha13⟩
          all_goals
            by_cases han : a < n
            · have g4 : ¬ (n : Int) ≤ a := by omega
              have g5 : (a : Int) < n := by omega
              go_wp2_with fail
              refine (bkSet HF.out.bk a han _).mono ?_
              rintro e w5 ⟨rfl, hk5, hc5⟩
              have hfs := HF.out.set hk5 hc5
              have cq : ∃ v, w5.cell? ⟨q, a, none⟩ = some v := ⟨_, (hc5.row HF.out.row HF.out.ne.2).cell han⟩
              obtain ⟨vq, cq⟩ := cq
              have dq := (hc5.row HF.out.row HF.out.ne.2).frozen
              have HF5 := Lib.hid hfs
              clear hk5 hc5 hcz hfs f3 f4
              go_wp2_with fail
              refine (bkHas HF5.out.bk a han).mono ?_
              rintro e w6 ⟨rfl, hk6, hc6⟩
              have HF6 := Lib.hid (HF5.out.same hk6 hc6)
              clear hk6 hc6 cq dq
              simp only [setBit, if_true]
              go_wp2_with fail
              go_roundw
              case rel => exact ⟨k + 1, _, by omega, by go_num, HF6.out⟩
              case measure => simp [intOf]; omega
            · have g4 : (n : Int) ≤ a := by omega
              go_wp2_with fail
              refine (bkSet_range HF.out.bk (a : Int) (.inr g4) _).mono ?_
              rintro e w5 ⟨rfl, rfl⟩
              go_wp2_with fail
              go_roundw
              case rel => exact ⟨k + 1, _, by omega, by go_num, HF.out⟩
              case measure => simp [intOf]; omega
        · have g2 : (60 : Int) < k := by omega
          go_wp2_with fail
          go_meet
          exact ⟨B, HF.out⟩
      · obtain rfl : k = zs.length := by omega
        go_wp2_with fail
        go_meet
        exact ⟨B, HF.out⟩
  case rest =>
    obtain ⟨B, hfw⟩ := hcut
    have HF := Lib.hid hfw
    clear hfw HZS
    have HW := Lib.hid (show W.heap.size ≤ wc.heap.size from HF.out.bk.bl.size)
    obtain ⟨wo, hwo⟩ : ∃ wo, wo = wc := ⟨_, rfl⟩
    subst hwo
    go_at_K
    go_step
    go_wp2_with fail
    go_loopw [20, 21, 102] (fun r20 r21 r wx => ∃ (i : Nat) (f : Int), i ≤ n ∧ r = .int .i64 i ∧ r21 = .int .i64 f ∧ FreeR B i f ∧ OwnN wx wo.heap.size r20 (setL B i) ∧ FW W wx gd gb gl gt gm g 32 n q B ∧ Below wo.heap.size wo wx) (fun _ _ r _ => n - (intOf r).toNat)
    case atStart => exact ⟨0, -1, by omega, rfl, rfl, .inl ⟨rfl, fun j hj => by omega⟩, OwnN.nil _ _, HF.out, Below.refl _ _⟩
    case round =>
      obtain ⟨i, f, hi, rfl, rfl, hfr, hown, hfw, hbl⟩ := hrel
      obtain ⟨A0, c0, hform⟩ := hown.form
      subst hform
      have HFR := Lib.hid hfr
      have HOWN := Lib.hid hown
      have HF1 := Lib.hid hfw
      have HBL := Lib.hid hbl
      have hfb := hfr.bound
      have hfb1 := hfb.1
      have hfb2 := hfb.2
      clear hfr hown hfw hbl hfb
      by_cases hin : i < n
      · have g1 : (i : Int) < n := by omega
        have hnx := setL_next B i
        have hln := setL_len B i
        obtain ⟨l0, hl0⟩ : ∃ l, l = setL B i := ⟨_, rfl⟩
        rw [← hl0] at hnx hln HOWN ⊢
        have HL0 := Lib.hid hl0
        have cq := HF1.out.row.cell hin
        unfold boolC at cq
        clear hl0
        cases hb : B i
        · rw [hb] at hnx cq
          simp only [Bool.false_eq_true, if_false, List.append_nil] at hnx
          have HNX := Lib.hid hnx
          have HNO := Lib.hid (HFR.out.no hb)
          clear hnx hb
          by_cases hf0 : f < 0
          · have HN2 := Lib.hid (show FreeR B (i + 1) (i : Int) by have := HNO.out; rwa [if_pos hf0] at this)
            go_wp2_with fail
            go_roundw
            case rel => exact ⟨i + 1, i, by omega, by go_num, rfl, HN2.out, by rw [HNX.out]; exact HOWN.out, HF1.out, HBL.out⟩
            case measure => simp [intOf]; omega
          · have HN2 := Lib.hid (show FreeR B (i + 1) f by have := HNO.out; rwa [if_neg hf0] at this)
            go_wp2_with fail
            go_roundw
            case rel => exact ⟨i + 1, f, by omega, by go_num, rfl, HN2.out, by rw [HNX.out]; exact HOWN.out, HF1.out, HBL.out⟩
            case measure => simp [intOf]; omega
        · rw [hb] at hnx cq
          simp only [if_true] at hnx
          have HNX := Lib.hid hnx
          have HYES := Lib.hid (HFR.out.yes hb)
          clear hnx hb
          go_wp2_with (with_reducible refine wpList_stop (some 110) rfl ?_)
          refine Lib.hid ?_
          refine wpList_lit_int rfl (.tmp 109) rfl (some 110) rfl (i : Int) (by go_simp) ?_
          intro w3 u hu hb3
          have HF3 := Lib.hid (HF1.out.keep hb3)
          have HBL3 := Lib.hid (HBL.out.trans (hb3.mono HBL.out.size))
          have HOWN3 := Lib.hid (HOWN.out.keep hb3)
          refine wpList_add_int rfl (.tmp 108) (.tmp 110) rfl (some 111) rfl wo.heap.size (.slice A0 l0.length c0) u l0 i (by go_simp) (by go_simp) HOWN3.out hu (by omega) HBL3.out.size ?_
          intro v4 w5 ho4 o4
          obtain ⟨A4, c4, hform4⟩ := ho4.form
          subst hform4
          rw [show (l0 ++ [i]).length = l0.length + 1 by simp] at ho4 ⊢
          have HOWN4 := Lib.hid ho4
          have HOB := Lib.hid (show ∀ x, (Value.slice A0 l0.length c0).ownBlock = some x → wo.heap.size ≤ x from fun x hx => (HOWN3.out.lt x hx).1)
          have HBL4 := Lib.hid (HBL3.out.trans (o4.toBelow HOB.out HBL3.out.size))
          have hf4 : FW W w5 gd gb gl gt gm g 32 n q B := by
            have hlt := HF.out.bk.lt
            have hq := HF.out.row.lt
            have hk : ∀ b, b < wo.heap.size → w5.heap[b]? = wo.heap[b]? := fun b hb => HBL4.out.block b hb
            obtain ⟨F, h1, h2, h3⟩ := HF.out.bk.ex
            exact ⟨⟨⟨F, ⟨⟨⟨h1.tx.lx.dx.keepAt (hk _ hlt.1) (hk _ hlt.2.1), h1.tx.lx.lg.of_block (hk _ hlt.2.2.1), h1.tx.lx.fit⟩, h1.tx.tx.of_block (hk _ hlt.2.2.2.1), h1.tx.mp.keepAt (hk _ hlt.2.2.2.2.1), h1.tx.ok⟩, h1.bm.of_block (hk _ hlt.2.2.2.2.2), h1.h1, h1.h2⟩, h2, h3⟩, HF.out.bk.bl.trans (HBL4.out.mono HF.out.bk.bl.size), HF.out.bk.lo, HF.out.bk.h3, HF.out.bk.hm, HF.out.bk.hf⟩, HF.out.row.of_block (hk _ hq), HF.out.lo⟩
          have HF4 := Lib.hid hf4
          clear hu hb3 ho4 o4 hf4 cq
          by_cases hf0 : f < 0
          all_goals
            go_wp2_with fail
            go_roundw
            case rel => exact ⟨i + 1, f, by omega, by go_num, rfl, HYES.out, by rw [HNX.out]; exact HOWN4.out, HF4.out, HBL4.out⟩
            case measure => simp [intOf]; omega
      · obtain rfl : i = n := by omega
        go_wp2_with fail
        refine (bkList HF1.out.bk).mono ?_
        rintro e w5 ⟨vl, rfl, hol, hk5, hc5⟩
        obtain ⟨Al, cl, hforml⟩ := hol.form
        subst hforml
        have HLT := Lib.hid (show gd < wo.heap.size ∧ gb < wo.heap.size ∧ gm < wo.heap.size from ⟨HF.out.bk.lt.1, HF.out.bk.lt.2.1, HF.out.bk.lt.2.2.2.2.1⟩)
        have HNS := Lib.hid (show ∀ k, wo.heap.size ≤ k → ¬ sset gd gb gm k from fun k hk e => by have := HLT.out; rcases e with (e | e) | e <;> omega)
        have HF5 := Lib.hid (HF1.out.same hk5 hc5)
        have HOL5 := Lib.hid hol
        have HOW5 := Lib.hid (HOWN.out.chg hc5 HNS.out)
        have HNS2 := Lib.hid (show ∀ k, wr.heap.size ≤ k → ¬ sset gd gb gm k from fun k hk => HNS.out k (Nat.le_trans HBL.out.size hk))
        have HSL := Lib.hid (setL_lt B i)
        have HCL := Lib.hid (show cntB B i = (setL B i).length from rfl)
        have HLN := Lib.hid (setL_len B i)
        clear hol hk5 hc5
        generalize setL B i = L at *
        go_wp2_with fail
        refine (bkFree HF5.out.bk).mono ?_
        rintro e w6 ⟨r, hr, rfl, hk6, hc6⟩
        obtain rfl : r = f := hr.unique HFR.out
        have HF6 := Lib.hid (HF5.out.same hk6 hc6)
        have HOL6 := Lib.hid (HOL5.out.chg hc6 HNS2.out)
        have HOW6 := Lib.hid (HOW5.out.chg hc6 HNS.out)
        clear hr hk6 hc6
        go_wp2_with fail
        refine (bkCount HF6.out.bk).mono ?_
        rintro e w7 ⟨rfl, hk7, hc7⟩
        rw [HCL.out]
        have HF7 := Lib.hid (HF6.out.same hk7 hc7)
        have HOL7 := Lib.hid (HOL6.out.chg hc7 HNS2.out)
        have HOW7 := Lib.hid (HOW6.out.chg hc7 HNS.out)
        clear hk7 hc7
        go_wp2_with fail
        by_cases hin2 : 0 ≤ raw ∧ raw < i
        · obtain ⟨j, hj⟩ : ∃ j : Nat, raw = j := ⟨raw.toNat, by omega⟩
          subst hj
          have hji : j < i := by omega
          have g2 : (j : Int) < i := by omega
          clear hin2
          refine (bkHas HF7.out.bk j hji).mono ?_
          rintro e w8 ⟨rfl, hk8, hc8⟩
          have HF8 := Lib.hid (HF7.out.same hk8 hc8)
          have hol8 := HOL7.out.chg hc8 HNS2.out
          have how8 := HOW7.out.chg hc8 HNS.out
          have HS1 := Lib.hid (hol8.si (fun c hc => by have := HSL.out c hc; omega))
          have HS2 := Lib.hid (how8.si (fun c hc => by have := HSL.out c hc; omega))
          clear hk8 hc8 hol8 how8
          cases hb : B j
          all_goals
            have HB := Lib.hid hb
            clear hb
            go_wp2_with (first
              | (go_at_call 32; refine (alikeInts _ _ _ _ HS1.out HS2.out (by rw [List.length_map]; have := HLN.out; omega)).mono ?_; rintro e w9 ⟨rfl, hb9⟩; have HF9 := Lib.hid (HF8.out.keep hb9); have cq := HF9.out.row.cell hji; unfold boolC at cq; rw [HB.out] at cq; clear hb9))
            go_ret
            exact ⟨rfl, HF9.out.bk.bl⟩
        · refine (bkHas_range HF7.out.bk raw (by omega)).mono ?_
          rintro e w8 ⟨rfl, rfl⟩
          have HS1 := Lib.hid (HOL7.out.si (fun c hc => by have := HSL.out c hc; omega))
          have HS2 := Lib.hid (HOW7.out.si (fun c hc => by have := HSL.out c hc; omega))
          by_cases h0 : 0 ≤ raw
          · have g2 : ¬ raw < (i : Int) := by omega
            clear hin2
            go_wp2_with (first
              | (go_at_call 32; refine (alikeInts _ _ _ _ HS1.out HS2.out (by rw [List.length_map]; have := HLN.out; omega)).mono ?_; rintro e w9 ⟨rfl, hb9⟩; have HF9 := Lib.hid (HF7.out.keep hb9); clear hb9))
            go_ret
            exact ⟨rfl, HF9.out.bk.bl⟩
          · clear hin2
            go_wp2_with (first
              | (go_at_call 32; refine (alikeInts _ _ _ _ HS1.out HS2.out (by rw [List.length_map]; have := HLN.out; omega)).mono ?_; rintro e w9 ⟨rfl, hb9⟩; have HF9 := Lib.hid (HF7.out.keep hb9); clear hb9))
            go_ret
            exact ⟨rfl, HF9.out.bk.bl⟩
end Go.Proofs.Ytonfnlohbgbffaa
